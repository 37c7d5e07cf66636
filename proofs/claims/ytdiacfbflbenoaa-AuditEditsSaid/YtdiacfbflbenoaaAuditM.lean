/-
  The reference's chain: Cut. Condition: a chain of at most 2^40 lines.
-/
import Derived.Test.YtdiacfbflbenoaaAuditL
namespace Go.Proofs.Ytdiacfbflbenoaa
open Go.RowKit
set_option linter.unusedSimpArgs false
set_option linter.unusedVariables false
set_option maxRecDepth 100000

theorem blk2 (w : World) (t0 t1 : TypeId) (c0 c1 : Array Value) : Blk ((w.alloc (.cells c0 t0)).alloc (.cells c1 t1)) w.heap.size t0 c0 ∧ Blk ((w.alloc (.cells c0 t0)).alloc (.cells c1 t1)) (w.heap.size + 1) t1 c1 := by
  have s1 : ∀ o, (w.alloc o).heap.size = w.heap.size + 1 := fun o => by simp
  refine ⟨(Blk.new w t0 c0).alloc _, ?_⟩
  have := Blk.new (w.alloc (.cells c0 t0)) t1 c1
  rwa [s1] at this
theorem Row.some_cap {w : World} {sz n cap : Nat} {a : Option Addr} {xs : List Value} (h : Row w sz a n cap xs) (hn : 0 < cap) : ∃ g off, a = some ⟨g, off, Option.none⟩ := by
  cases a with
  | none => have := h.nil rfl; omega
  | some ad =>
    obtain ⟨h1, _⟩ := h.at_ ad rfl
    obtain ⟨b, o, s⟩ := ad
    simp at h1
    exact ⟨b, o, by rw [h1]⟩
theorem row_drop {w : World} {l : List Ln} {a : Option Addr} {cap k : Nat} (h : Row w 8 a l.length cap (lncs l)) (hk : k ≤ l.length) : Row w 8 (if cap = k then a else a.map (·.add (k * 8))) (l.length - k) (cap - k) (lncs (l.drop k)) := by
  have := h.sub k l.length hk (Nat.le_refl _)
  rwa [← lncs_drop _ _ hk, List.take_of_length_le (by rw [lncs_len, List.length_drop]; exact Nat.le_refl _)] at this
set_option maxHeartbeats 8000000 in
theorem refCut_any (c : Ch) (n : Int) (a : Option Addr) (cap : Nat) (w : World) (h2 : Row w 8 a c.ls.length cap (lncs c.ls)) (hc : ChOk c) :
    Calls Try.prog 13 #[.agg #[.int .i64 c.base.count, Str c.base.hash, .slice a c.ls.length cap], .int .i64 n] w (RefAddPost (cutL c n) (canCut c n) a w) := by
  have HR := Lib.hid h2
  have HC := Lib.hid hc
  have hll := hc.len
  obtain ⟨hc1, hc2⟩ := hc.count
  clear h2 hc
  have q0 : IntKind.i64.wrap (c.base.count + (c.ls.length : Int)) = c.base.count + (c.ls.length : Int) := IntWalk.i64_in _ (by omega)
  by_cases hn : n < c.base.count
  · have HN := Lib.hid (show canCut c n = false by simp [canCut]; omega)
    have HNO := Lib.hid (cutL_no HN.out)
    have hnd : decide (n < c.base.count) = true := decide_eq_true hn
    clear hn
    go_enter Try.func13, Try.ntmps13
    go_wp2_with fail
    refine bodyPost_ret (v := .tuple #[.agg #[.int .i64 c.base.count, Str c.base.hash, .slice a c.ls.length cap], .bool false]) ?_ rfl ⟨a, cap, ?_, ?_, ?_, fun g hg => .inl hg⟩
    · simp [results, Try.results13, go_sem]
    · rw [HN.out, HNO.out]
    · rw [HNO.out]
      exact (HR.out.alloc _).alloc _
    · exact ((Step.refl [] w).alloc _).alloc _
  · have hnd : decide (n < c.base.count) = false := decide_eq_false hn
    by_cases hm : c.base.count + (c.ls.length : Int) < n
    · have HN := Lib.hid (show canCut c n = false by simp [canCut]; omega)
      have HNO := Lib.hid (cutL_no HN.out)
      have hmd : decide (c.base.count + (c.ls.length : Int) < n) = true := decide_eq_true hm
      clear hm hn
      go_enter Try.func13, Try.ntmps13
      go_wp2_with fail
      refine bodyPost_ret (v := .tuple #[.agg #[.int .i64 c.base.count, Str c.base.hash, .slice a c.ls.length cap], .bool false]) ?_ rfl ⟨a, cap, ?_, ?_, ?_, fun g hg => .inl hg⟩
      · simp [results, Try.results13, go_sem]
      · rw [HN.out, HNO.out]
      · rw [HNO.out]
        exact (HR.out.alloc _).alloc _
      · exact ((Step.refl [] w).alloc _).alloc _
    · have hmd : decide (c.base.count + (c.ls.length : Int) < n) = false := decide_eq_false hm
      have hYES := Lib.hid (show canCut c n = true by simp [canCut]; omega)
      obtain ⟨k, hk⟩ : ∃ k : Nat, n - c.base.count = k := ⟨(n - c.base.count).toNat, by omega⟩
      have HK : Hid (n - c.base.count = k ∧ k ≤ c.ls.length) := ⟨hk, by omega⟩
      have q1 : IntKind.i64.wrap (n - c.base.count) = (k : Int) := by rw [hk]; exact IntWalk.i64_in _ (by omega)
      clear hm hn hk
      have hkl := HK.out.2
      have hcap := HR.out.le
      have q2 : (k : Int) ≤ cap := by omega
      have q3 : (0 : Int) ≤ k := by omega
      have q4 : k ≤ cap := by omega
      clear hkl hcap
      by_cases hck : cap = k
      · obtain rfl : k = cap := hck.symm
        go_enter Try.func13, Try.ntmps13
        go_wp2_with fail
        obtain ⟨b, hb⟩ : ∃ b, b = w.heap.size := ⟨_, rfl⟩
        obtain ⟨W6, hW6⟩ : ∃ W6, W6 = ((w.alloc (.cells #[.int .i64 c.base.count, Str c.base.hash, .slice a c.ls.length k] 29)).alloc (.cells #[.int .i64 0, Str [], .slice none 0 0] 29)) := ⟨_, rfl⟩
        have K6 : Hid (Blk W6 b 29 #[.int .i64 c.base.count, Str c.base.hash, .slice a c.ls.length k] ∧ Blk W6 (b + 1) 29 #[.int .i64 0, Str [], .slice none 0 0] ∧ Row W6 8 a c.ls.length k (lncs c.ls) ∧ Step [] [] w W6 ∧ b = w.heap.size) := by
          rw [hW6, hb]
          have B := blk2 w 29 29 #[.int .i64 c.base.count, Str c.base.hash, .slice a c.ls.length k] #[.int .i64 0, Str [], .slice none 0 0]
          exact ⟨B.1, B.2, (HR.out.alloc _).alloc _, ((Step.refl [] w).alloc _).alloc _, rfl⟩
        rw [show ((w.alloc (.cells #[.int .i64 c.base.count, Str c.base.hash, .slice a c.ls.length k] 29)).alloc (.cells #[.int .i64 0, .string ⟨#[]⟩, .slice none 0 0] 29)) = W6 from hW6.symm, ← hb]
        clear hW6 hb
        refine wp_region_held_drew (S := fun V => Hid (Blk V b 29 #[.int .i64 c.base.count, Str c.base.hash, .slice a c.ls.length k])) (by kernel_rfl) (Lib.hid K6.out.1.drew) (fun hHeld => ?_)
        refine wpAnyH_take (i := 0) (v := ?_) rfl (by kernel_rfl) (by kernel_rfl) (by kernel_rfl) (fun _ _ _ h => h) (Or.inl ⟨by rfl, ?_⟩) hHeld ?_
        rotate_left
        · intro w hSw
          have hSw1 := hSw
          clear hSw
          try dsimp only at hSw1
          go_simp
          try (with_reducible rfl)
        try simp only [Act.put, List.setIfInBounds_toArray, List.set_cons_zero, List.set_cons_succ, List.getElem_toArray, List.getElem_cons_zero, List.getElem_cons_succ]
        refine wpAnyH_take (i := 1) (v := ?_) rfl (by kernel_rfl) (by kernel_rfl) (by kernel_rfl) (fun _ _ _ h => h) (Or.inl ⟨by rfl, ?_⟩) hHeld ?_
        rotate_left
        · intro w hSw
          have hSw1 := hSw
          clear hSw
          have hb0 := hSw1.out.cell 0
          have hb1 := hSw1.out.cell 1
          have hb2 := hSw1.out.cell 2
          have hb3 := hSw1.out.lt
          simp only [List.getElem?_toArray, List.getElem?_cons_zero, List.getElem?_cons_succ] at hb0 hb1 hb2
          go_simp
          try (with_reducible rfl)
        try simp only [Act.put, List.setIfInBounds_toArray, List.set_cons_zero, List.set_cons_succ, List.getElem_toArray, List.getElem_cons_zero, List.getElem_cons_succ]
        refine wpAnyH_take (i := 2) (v := ?_) rfl (by kernel_rfl) (by kernel_rfl) (by kernel_rfl) (fun _ _ _ h => h) (Or.inl ⟨by rfl, ?_⟩) hHeld ?_
        rotate_left
        · intro w hSw
          have hSw1 := hSw
          clear hSw
          try dsimp only at hSw1
          go_simp
          try (with_reducible rfl)
        try simp only [Act.put, List.setIfInBounds_toArray, List.set_cons_zero, List.set_cons_succ, List.getElem_toArray, List.getElem_cons_zero, List.getElem_cons_succ]
        refine wpAnyH_take (i := 3) (v := ?_) rfl (by kernel_rfl) (by kernel_rfl) (by kernel_rfl) (fun _ _ _ h => h) (Or.inl ⟨by rfl, ?_⟩) hHeld ?_
        rotate_left
        · intro w hSw
          have hSw1 := hSw
          clear hSw
          have hb0 := hSw1.out.cell 0
          have hb1 := hSw1.out.cell 1
          have hb2 := hSw1.out.cell 2
          have hb3 := hSw1.out.lt
          simp only [List.getElem?_toArray, List.getElem?_cons_zero, List.getElem?_cons_succ] at hb0 hb1 hb2
          go_simp
          try (with_reducible rfl)
        try simp only [Act.put, List.setIfInBounds_toArray, List.set_cons_zero, List.set_cons_succ, List.getElem_toArray, List.getElem_cons_zero, List.getElem_cons_succ]
        refine wpAnyH_take (i := 4) (v := ?_) rfl (by kernel_rfl) (by kernel_rfl) (by kernel_rfl) (fun _ _ _ h => h) (Or.inl ⟨by rfl, ?_⟩) hHeld ?_
        rotate_left
        · intro w hSw
          have hSw1 := hSw
          clear hSw
          try dsimp only at hSw1
          go_simp
          try (with_reducible rfl)
        try simp only [Act.put, List.setIfInBounds_toArray, List.set_cons_zero, List.set_cons_succ, List.getElem_toArray, List.getElem_cons_zero, List.getElem_cons_succ]
        refine wpAnyH_take (i := 5) (v := ?_) rfl (by kernel_rfl) (by kernel_rfl) (by kernel_rfl) (fun _ _ _ h => h) (Or.inl ⟨by rfl, ?_⟩) hHeld ?_
        rotate_left
        · intro w hSw
          have hSw1 := hSw
          clear hSw
          have hb0 := hSw1.out.cell 0
          have hb1 := hSw1.out.cell 1
          have hb2 := hSw1.out.cell 2
          have hb3 := hSw1.out.lt
          simp only [List.getElem?_toArray, List.getElem?_cons_zero, List.getElem?_cons_succ] at hb0 hb1 hb2
          go_simp
          try (with_reducible rfl)
        try simp only [Act.put, List.setIfInBounds_toArray, List.set_cons_zero, List.set_cons_succ, List.getElem_toArray, List.getElem_cons_zero, List.getElem_cons_succ]
        refine wpAnyH_take (i := 6) (v := ?_) rfl (by kernel_rfl) (by kernel_rfl) (by kernel_rfl) (fun _ _ _ h => h) (Or.inl ⟨by rfl, ?_⟩) hHeld ?_
        rotate_left
        · intro w hSw
          have hSw1 := hSw
          clear hSw
          try dsimp only at hSw1
          go_simp
          try (with_reducible rfl)
        try simp only [Act.put, List.setIfInBounds_toArray, List.set_cons_zero, List.set_cons_succ, List.getElem_toArray, List.getElem_cons_zero, List.getElem_cons_succ]
        refine wpAnyH_take (i := 7) (v := ?_) rfl (by kernel_rfl) (by kernel_rfl) (by kernel_rfl) (fun _ _ _ h => h) (Or.inl ⟨by rfl, ?_⟩) hHeld ?_
        rotate_left
        · intro w hSw
          have hSw1 := hSw
          clear hSw
          try dsimp only at hSw1
          go_simp
          try (with_reducible rfl)
        try simp only [Act.put, List.setIfInBounds_toArray, List.set_cons_zero, List.set_cons_succ, List.getElem_toArray, List.getElem_cons_zero, List.getElem_cons_succ]
        refine wpAnyH_take (i := 8) (v := ?_) rfl (by kernel_rfl) (by kernel_rfl) (by kernel_rfl) (fun _ _ _ h => h) (Or.inl ⟨by rfl, ?_⟩) hHeld ?_
        rotate_left
        · intro w hSw
          have hSw1 := hSw
          clear hSw
          try dsimp only at hSw1
          go_simp
          try (with_reducible rfl)
        try simp only [Act.put, List.setIfInBounds_toArray, List.set_cons_zero, List.set_cons_succ, List.getElem_toArray, List.getElem_cons_zero, List.getElem_cons_succ]
        refine wpAnyH_ready (rs := [9]) (by kernel_rfl) (by simp) ?_
        refine AllReadyH.cons rfl (fun K hK => ?_) AllReadyH.nil
        go_simp
        skip
        go_wp2_with fail
        refine hK.out _ _ (Lib.hid (hHeld.out.alloc _)) (fun hHeld2 => ?_)
        clear hK K hHeld
        try simp only [Act.put, List.setIfInBounds_toArray, List.set_cons_zero, List.set_cons_succ, List.getElem_toArray, List.getElem_cons_zero, List.getElem_cons_succ]
        refine wpAnyH_ready (rs := [10]) (by kernel_rfl) (by simp) ?_
        refine AllReadyH.cons rfl (fun K hK => ?_) AllReadyH.nil
        go_simp
        skip
        go_wp2_with fail
        refine hK.out _ _ (Lib.hid (K6.out.1.drew.alloc _)) (fun hHeld3 => ?_)
        clear hK K hHeld2
        try simp only [Act.put, List.setIfInBounds_toArray, List.set_cons_zero, List.set_cons_succ, List.getElem_toArray, List.getElem_cons_zero, List.getElem_cons_succ]
        refine wpAnyH_done (by kernel_rfl) ?_ _
        obtain ⟨t, ht⟩ : ∃ t, t = W6.heap.size := ⟨_, rfl⟩
        obtain ⟨W7, hW7⟩ : ∃ W7, W7 = (W6.alloc (.cells #[.int .i64 c.base.count, Str c.base.hash, .slice a k k] 29)).drew := ⟨_, rfl⟩
        have K7 : Hid (Blk W7 b 29 #[.int .i64 c.base.count, Str c.base.hash, .slice a c.ls.length k] ∧ Blk W7 (b + 1) 29 #[.int .i64 0, Str [], .slice none 0 0] ∧ Blk W7 t 29 #[.int .i64 c.base.count, Str c.base.hash, .slice a k k] ∧ Row W7 8 a c.ls.length k (lncs c.ls) ∧ Step [] [] w W7 ∧ b = w.heap.size) := by
          rw [hW7, ht]
          exact ⟨(K6.out.1.alloc _).drew, (K6.out.2.1.alloc _).drew, (Blk.new W6 _ _).drew, (K6.out.2.2.1.alloc _).drew, (K6.out.2.2.2.1.alloc _).drew, K6.out.2.2.2.2⟩
        rw [show (W6.alloc (.cells #[.int .i64 c.base.count, .string ⟨c.base.hash.toArray⟩, .slice a k k] 29)).drew = W7 from hW7.symm, ← ht]
        clear hW7 ht K6 hHeld3
        have c0 := K7.out.1.cell 0
        have c1 := K7.out.1.cell 1
        have c2 := K7.out.1.cell 2
        have hp := K7.out.1.lt
        have t0 := K7.out.2.2.1.lt
        simp only [List.getElem?_toArray, List.getElem?_cons_zero, List.getElem?_cons_succ] at c0 c1 c2
        have q5 : (k : Int) ≤ c.ls.length := by have := HK.out.2; omega
        have q6 : k ≤ c.ls.length := HK.out.2
        have q7 : (c.ls.length : Int) ≤ k := by have := HR.out.le; omega
        have q8 : c.ls.length ≤ k := HR.out.le
        obtain ⟨i0, hi, hz0, hz1, hz2⟩ := info_parts Try.info_line
        have HI := Lib.hid (And.intro hi (And.intro hz0 (And.intro hz1 hz2)))
        clear hi hz0 hz1 hz2
        have HS : Hid (Row (W7.alloc (.cells #[] 32)) 8 a 0 0 (lncs (c.ls.drop k))) := Lib.hid (Row.alloc (by have := row_drop K7.out.2.2.2.1 HK.out.2; rwa [if_pos rfl, Nat.sub_self, Nat.sub_eq_zero_of_le q8] at this) _)
        have HTH : Hid (∀ W, Row W 8 a k k (lncs (c.ls.take k)) → Calls Try.prog 27 #[.agg #[.int .i64 c.base.count, Str c.base.hash, .slice a k k]] W fun e w' => e = .returned (.tuple #[.int .i64 (headL c.base (c.ls.take k)).count, Str (headL c.base (c.ls.take k)).hash]) ∧ Step [] [] W w') := by
          intro W hw
          have hlen : (c.ls.take k).length = k := by rw [List.length_take]; exact Nat.min_eq_left HK.out.2
          have := refHead_any ⟨c.base, c.ls.take k⟩ a k W (by simp only; rw [hlen]; exact hw) ⟨⟨hc1, hc2⟩, by simp only; omega⟩
          simp only [hlen] at this
          exact this
        obtain ⟨q, hq⟩ : ∃ q, q = headL c.base (c.ls.take k) := ⟨_, rfl⟩
        have HQ := Lib.hid hq
        rw [← hq] at HTH
        clear hq
        go_wp2_with (at_builtin; refine wpList_append_row rfl (.tmp 37) (.tmp 41) 27 27 rfl 32 i0 _ 8 88 Try.underlying27 HI.out.1 HI.out.2.1 HI.out.2.2.1 HI.out.2.2.2 rfl rfl (Row.empty W7 32 8) rfl (Src.rd 27 32 Try.underlying27 HS.out.rd (lncs_one _)) (by unfold maxLen; omega) (by omega) (by omega) ?_; intro a5 c5 w5 hr5 st5; rw [Nat.zero_add, List.nil_append] at hr5; rw [Nat.zero_add]; have H5 : Hid (Row w5 8 a5 0 c5 (lncs (c.ls.drop k)) ∧ Step [W7.heap.size] (blks a5) (W7.alloc (.cells #[] 32)) w5) := ⟨hr5, st5⟩; have t5 := ((K7.out.2.2.1.alloc (.cells #[] 32)).step st5 (by simp [blks]; omega)); have t50 := t5.cell 0; have t51 := t5.cell 1; have t52 := t5.cell 2; have t53 := t5.lt; simp only [List.getElem?_toArray, List.getElem?_cons_zero, List.getElem?_cons_succ] at t50 t51 t52; clear hr5 st5 t5 c0 c1 c2 hp t0)
        obtain ⟨z, hz⟩ : ∃ z, z = w5.heap.size := ⟨_, rfl⟩
        obtain ⟨V, hV⟩ : ∃ V, V = w5.alloc (.cells #[.int .i64 0, Str [], .slice a5 0 c5] 29) := ⟨_, rfl⟩
        have hsz5 := H5.out.2.size
        have hn5 : ∀ j, j < W7.heap.size → j ∉ [W7.heap.size] := by intro j hj; simp; omega
        have K8 : Hid (Blk V (b + 1) 29 #[.int .i64 0, Str [], .slice none 0 0] ∧ Blk V z 29 #[.int .i64 0, Str [], .slice a5 0 c5] ∧ Row V 8 a k k (lncs (c.ls.take k)) ∧ Row V 8 a5 0 c5 (lncs (c.ls.drop k)) ∧ Step [] (blks a5) w V ∧ (∀ j, j < W7.heap.size → j ∉ blks a5) ∧ b + 1 < W7.heap.size ∧ W7.heap.size ≤ z ∧ z ∉ blks a5 ∧ w.heap.size ≤ W7.heap.size) := by
          rw [hV, hz]
          refine ⟨((K7.out.2.1.alloc _).step H5.out.2 (hn5 _ K7.out.2.1.lt)).alloc _, Blk.new w5 _ _, ?_, H5.out.1.alloc _, (step_new (K7.out.2.2.2.2.1.alloc _) H5.out.2 (by have := K7.out.2.2.2.2.1.size; simp; omega)).alloc _, fun j hj => H5.out.2.notin (by simp; omega) (hn5 j hj), K7.out.2.1.lt, by simp at hsz5; omega, fun hg => absurd (H5.out.1.lt _ hg) (Nat.lt_irrefl _), K7.out.2.2.2.2.1.size⟩
          rw [lncs_take _ _ HK.out.2]
          exact (((K7.out.2.2.2.1.pre k HK.out.2).alloc _).step H5.out.2 (fun g hg => hn5 g (K7.out.2.2.2.1.lt g hg))).alloc _
        rw [show w5.alloc (.cells #[.int .i64 0, .string ⟨#[]⟩, .slice a5 0 c5] 29) = V from hV.symm, ← hz]
        clear hV hz hsz5 hn5 t50 t51 t52 t53
        refine (HTH.out V K8.out.2.2.1).mono ?_
        rintro e w9 ⟨rfl, k9⟩
        have K9 : Hid (Blk w9 (b + 1) 29 #[.int .i64 0, Str [], .slice none 0 0] ∧ Blk w9 z 29 #[.int .i64 0, Str [], .slice a5 0 c5] ∧ Row w9 8 a5 0 c5 (lncs (c.ls.drop k)) ∧ Step [] (blks a5) w w9 ∧ b + 1 ≠ z ∧ b + 1 ∉ blks a5 ∧ z ∉ blks a5 ∧ w.heap.size ≤ z ∧ b = w.heap.size) :=
          ⟨K8.out.1.step k9 (by simp), K8.out.2.1.step k9 (by simp), K8.out.2.2.2.1.step k9 (by simp), K8.out.2.2.2.2.1.trans (k9.up _), by have := K8.out.2.2.2.2.2.2.1; have := K8.out.2.2.2.2.2.2.2.1; omega, K8.out.2.2.2.2.2.1 _ K8.out.2.2.2.2.2.2.1, K8.out.2.2.2.2.2.2.2.2.1, Nat.le_trans K8.out.2.2.2.2.2.2.2.2.2 K8.out.2.2.2.2.2.2.2.1, K7.out.2.2.2.2.2⟩
        clear k9 K8 K7 H5 HS HTH
        have zz := K9.out.2.1.lt
        have zf0 := K9.out.2.1.frozen 0
        have zf1 := K9.out.2.1.frozen 1
        have zc0 := K9.out.2.1.cell 0
        have zc1 := K9.out.2.1.cell 1
        simp only [List.getElem?_toArray, List.getElem?_cons_zero, List.getElem?_cons_succ] at zc0 zc1
        go_upto_region 7 with fail
        obtain ⟨W9, hW9⟩ : ∃ W9, W9 = (w9.setCell ⟨z, 0, none⟩ (.int .i64 q.count)).setCell ⟨z, 1, none⟩ (Str q.hash) := ⟨_, rfl⟩
        have L9 : Hid (Blk W9 (b + 1) 29 #[.int .i64 0, Str [], .slice none 0 0] ∧ Blk W9 z 29 #[.int .i64 q.count, Str q.hash, .slice a5 0 c5] ∧ Row W9 8 a5 0 c5 (lncs (c.ls.drop k)) ∧ Step [] (blks a5) w W9 ∧ b + 1 ∉ blks a5 ∧ b = w.heap.size) := by
          rw [hW9]
          have ss : Step [z] [z] w9 ((w9.setCell ⟨z, 0, none⟩ (.int .i64 q.count)).setCell ⟨z, 1, none⟩ (Str q.hash)) := ((Step.refl _ w9).setCell (.inl (by simp)) _).setCell (.inl (by simp)) _
          refine ⟨K9.out.1.step ss (by simpa using K9.out.2.2.2.2.1), ?_, K9.out.2.2.1.step ss (fun g hg e => by simp at e; subst e; exact K9.out.2.2.2.2.2.2.1 hg), (K9.out.2.2.2.1.setCell (.inr K9.out.2.2.2.2.2.2.2.1) _).setCell (.inr K9.out.2.2.2.2.2.2.2.1) _, K9.out.2.2.2.2.2.1, K9.out.2.2.2.2.2.2.2.2⟩
          simpa using (K9.out.2.1.set 0 (.int .i64 q.count)).set 1 (Str q.hash)
        rw [← hW9]
        clear hW9 K9 zz zf0 zf1 zc0 zc1
        have e0 := L9.out.2.1.cell 0
        have e1 := L9.out.2.1.cell 1
        have e2 := L9.out.2.1.cell 2
        have e3 := L9.out.2.1.lt
        have z1 := L9.out.1.lt
        have zf0 := L9.out.1.frozen 0
        have zf1 := L9.out.1.frozen 1
        have zf2 := L9.out.1.frozen 2
        have zc0 := L9.out.1.cell 0
        have zc1 := L9.out.1.cell 1
        have zc2 := L9.out.1.cell 2
        simp only [List.getElem?_toArray, List.getElem?_cons_zero, List.getElem?_cons_succ] at e0 e1 e2 zc0 zc1 zc2
        go_wp2_with fail
        have P3 := Blk.put3 L9.out.1 (.int .i64 q.count) (Str q.hash) (.slice a5 0 c5)
        have SS : Step [b + 1] [b + 1] W9 (((W9.setCell ⟨b + 1, 0, none⟩ (.int .i64 q.count)).setCell ⟨b + 1, 1, none⟩ (Str q.hash)).setCell ⟨b + 1, 2, none⟩ (.slice a5 0 c5)) := (((Step.refl _ W9).setCell (.inl (by simp)) _).setCell (.inl (by simp)) _).setCell (.inl (by simp)) _
        have hbw := L9.out.2.2.2.2.2
        have SW : Step [] (blks a5) w (((W9.setCell ⟨b + 1, 0, none⟩ (.int .i64 q.count)).setCell ⟨b + 1, 1, none⟩ (Str q.hash)).setCell ⟨b + 1, 2, none⟩ (.slice a5 0 c5)) := ((L9.out.2.2.2.1.setCell (.inr (by simp; omega)) _).setCell (.inr (by simp; omega)) _).setCell (.inr (by simp; omega)) _
        have hkk : (n - c.base.count).toNat = k := by have := HK.out.1; omega
        have hcut : cutL c n = ⟨q, c.ls.drop k⟩ := by rw [cutL, if_pos hYES.out, hkk, ← HQ.out]
        have hdl : (c.ls.drop k).length = 0 := by rw [List.length_drop]; exact Nat.sub_eq_zero_of_le q8
        refine bodyPost_ret (v := .tuple #[.agg #[.int .i64 q.count, Str q.hash, .slice a5 0 c5], .bool true]) ?_ rfl ⟨a5, c5, ?_, ?_, SW.drop (by simp), ?_⟩
        · simp [results, Try.results13, go_sem, P3]
        · rw [hcut, hYES.out]; simp only [hdl]
        · rw [hcut]
          simp only [hdl]
          exact L9.out.2.2.1.step SS (fun g hg e => by simp at e; subst e; exact L9.out.2.2.2.2.1 hg)
        · intro g hg
          rcases SW.fresh g hg with h9 | h9
          · simp at h9
          · exact .inr h9
      · obtain ⟨g, off, rfl⟩ : ∃ g off, a = some (⟨g, off, none⟩ : Addr) := HR.out.some_cap (by omega)
        go_enter Try.func13, Try.ntmps13
        go_wp2_with fail
        obtain ⟨b, hb⟩ : ∃ b, b = w.heap.size := ⟨_, rfl⟩
        obtain ⟨W6, hW6⟩ : ∃ W6, W6 = ((w.alloc (.cells #[.int .i64 c.base.count, Str c.base.hash, .slice (some (⟨g, off, none⟩ : Addr)) c.ls.length cap] 29)).alloc (.cells #[.int .i64 0, Str [], .slice none 0 0] 29)) := ⟨_, rfl⟩
        have K6 : Hid (Blk W6 b 29 #[.int .i64 c.base.count, Str c.base.hash, .slice (some (⟨g, off, none⟩ : Addr)) c.ls.length cap] ∧ Blk W6 (b + 1) 29 #[.int .i64 0, Str [], .slice none 0 0] ∧ Row W6 8 (some (⟨g, off, none⟩ : Addr)) c.ls.length cap (lncs c.ls) ∧ Step [] [] w W6 ∧ b = w.heap.size) := by
          rw [hW6, hb]
          have B := blk2 w 29 29 #[.int .i64 c.base.count, Str c.base.hash, .slice (some (⟨g, off, none⟩ : Addr)) c.ls.length cap] #[.int .i64 0, Str [], .slice none 0 0]
          exact ⟨B.1, B.2, (HR.out.alloc _).alloc _, ((Step.refl [] w).alloc _).alloc _, rfl⟩
        rw [show ((w.alloc (.cells #[.int .i64 c.base.count, Str c.base.hash, .slice (some (⟨g, off, none⟩ : Addr)) c.ls.length cap] 29)).alloc (.cells #[.int .i64 0, .string ⟨#[]⟩, .slice none 0 0] 29)) = W6 from hW6.symm, ← hb]
        clear hW6 hb
        refine wp_region_held_drew (S := fun V => Hid (Blk V b 29 #[.int .i64 c.base.count, Str c.base.hash, .slice (some (⟨g, off, none⟩ : Addr)) c.ls.length cap])) (by kernel_rfl) (Lib.hid K6.out.1.drew) (fun hHeld => ?_)
        refine wpAnyH_take (i := 0) (v := ?_) rfl (by kernel_rfl) (by kernel_rfl) (by kernel_rfl) (fun _ _ _ h => h) (Or.inl ⟨by rfl, ?_⟩) hHeld ?_
        rotate_left
        · intro w hSw
          have hSw1 := hSw
          clear hSw
          try dsimp only at hSw1
          go_simp
          try (with_reducible rfl)
        try simp only [Act.put, List.setIfInBounds_toArray, List.set_cons_zero, List.set_cons_succ, List.getElem_toArray, List.getElem_cons_zero, List.getElem_cons_succ]
        refine wpAnyH_take (i := 1) (v := ?_) rfl (by kernel_rfl) (by kernel_rfl) (by kernel_rfl) (fun _ _ _ h => h) (Or.inl ⟨by rfl, ?_⟩) hHeld ?_
        rotate_left
        · intro w hSw
          have hSw1 := hSw
          clear hSw
          have hb0 := hSw1.out.cell 0
          have hb1 := hSw1.out.cell 1
          have hb2 := hSw1.out.cell 2
          have hb3 := hSw1.out.lt
          simp only [List.getElem?_toArray, List.getElem?_cons_zero, List.getElem?_cons_succ] at hb0 hb1 hb2
          go_simp
          try (with_reducible rfl)
        try simp only [Act.put, List.setIfInBounds_toArray, List.set_cons_zero, List.set_cons_succ, List.getElem_toArray, List.getElem_cons_zero, List.getElem_cons_succ]
        refine wpAnyH_take (i := 2) (v := ?_) rfl (by kernel_rfl) (by kernel_rfl) (by kernel_rfl) (fun _ _ _ h => h) (Or.inl ⟨by rfl, ?_⟩) hHeld ?_
        rotate_left
        · intro w hSw
          have hSw1 := hSw
          clear hSw
          try dsimp only at hSw1
          go_simp
          try (with_reducible rfl)
        try simp only [Act.put, List.setIfInBounds_toArray, List.set_cons_zero, List.set_cons_succ, List.getElem_toArray, List.getElem_cons_zero, List.getElem_cons_succ]
        refine wpAnyH_take (i := 3) (v := ?_) rfl (by kernel_rfl) (by kernel_rfl) (by kernel_rfl) (fun _ _ _ h => h) (Or.inl ⟨by rfl, ?_⟩) hHeld ?_
        rotate_left
        · intro w hSw
          have hSw1 := hSw
          clear hSw
          have hb0 := hSw1.out.cell 0
          have hb1 := hSw1.out.cell 1
          have hb2 := hSw1.out.cell 2
          have hb3 := hSw1.out.lt
          simp only [List.getElem?_toArray, List.getElem?_cons_zero, List.getElem?_cons_succ] at hb0 hb1 hb2
          go_simp
          try (with_reducible rfl)
        try simp only [Act.put, List.setIfInBounds_toArray, List.set_cons_zero, List.set_cons_succ, List.getElem_toArray, List.getElem_cons_zero, List.getElem_cons_succ]
        refine wpAnyH_take (i := 4) (v := ?_) rfl (by kernel_rfl) (by kernel_rfl) (by kernel_rfl) (fun _ _ _ h => h) (Or.inl ⟨by rfl, ?_⟩) hHeld ?_
        rotate_left
        · intro w hSw
          have hSw1 := hSw
          clear hSw
          try dsimp only at hSw1
          go_simp
          try (with_reducible rfl)
        try simp only [Act.put, List.setIfInBounds_toArray, List.set_cons_zero, List.set_cons_succ, List.getElem_toArray, List.getElem_cons_zero, List.getElem_cons_succ]
        refine wpAnyH_take (i := 5) (v := ?_) rfl (by kernel_rfl) (by kernel_rfl) (by kernel_rfl) (fun _ _ _ h => h) (Or.inl ⟨by rfl, ?_⟩) hHeld ?_
        rotate_left
        · intro w hSw
          have hSw1 := hSw
          clear hSw
          have hb0 := hSw1.out.cell 0
          have hb1 := hSw1.out.cell 1
          have hb2 := hSw1.out.cell 2
          have hb3 := hSw1.out.lt
          simp only [List.getElem?_toArray, List.getElem?_cons_zero, List.getElem?_cons_succ] at hb0 hb1 hb2
          go_simp
          try (with_reducible rfl)
        try simp only [Act.put, List.setIfInBounds_toArray, List.set_cons_zero, List.set_cons_succ, List.getElem_toArray, List.getElem_cons_zero, List.getElem_cons_succ]
        refine wpAnyH_take (i := 6) (v := ?_) rfl (by kernel_rfl) (by kernel_rfl) (by kernel_rfl) (fun _ _ _ h => h) (Or.inl ⟨by rfl, ?_⟩) hHeld ?_
        rotate_left
        · intro w hSw
          have hSw1 := hSw
          clear hSw
          try dsimp only at hSw1
          go_simp
          try (with_reducible rfl)
        try simp only [Act.put, List.setIfInBounds_toArray, List.set_cons_zero, List.set_cons_succ, List.getElem_toArray, List.getElem_cons_zero, List.getElem_cons_succ]
        refine wpAnyH_take (i := 7) (v := ?_) rfl (by kernel_rfl) (by kernel_rfl) (by kernel_rfl) (fun _ _ _ h => h) (Or.inl ⟨by rfl, ?_⟩) hHeld ?_
        rotate_left
        · intro w hSw
          have hSw1 := hSw
          clear hSw
          try dsimp only at hSw1
          go_simp
          try (with_reducible rfl)
        try simp only [Act.put, List.setIfInBounds_toArray, List.set_cons_zero, List.set_cons_succ, List.getElem_toArray, List.getElem_cons_zero, List.getElem_cons_succ]
        refine wpAnyH_take (i := 8) (v := ?_) rfl (by kernel_rfl) (by kernel_rfl) (by kernel_rfl) (fun _ _ _ h => h) (Or.inl ⟨by rfl, ?_⟩) hHeld ?_
        rotate_left
        · intro w hSw
          have hSw1 := hSw
          clear hSw
          try dsimp only at hSw1
          go_simp
          try (with_reducible rfl)
        try simp only [Act.put, List.setIfInBounds_toArray, List.set_cons_zero, List.set_cons_succ, List.getElem_toArray, List.getElem_cons_zero, List.getElem_cons_succ]
        refine wpAnyH_ready (rs := [9]) (by kernel_rfl) (by simp) ?_
        refine AllReadyH.cons rfl (fun K hK => ?_) AllReadyH.nil
        go_simp
        skip
        go_wp2_with fail
        refine hK.out _ _ (Lib.hid (hHeld.out.alloc _)) (fun hHeld2 => ?_)
        clear hK K hHeld
        try simp only [Act.put, List.setIfInBounds_toArray, List.set_cons_zero, List.set_cons_succ, List.getElem_toArray, List.getElem_cons_zero, List.getElem_cons_succ]
        refine wpAnyH_ready (rs := [10]) (by kernel_rfl) (by simp) ?_
        refine AllReadyH.cons rfl (fun K hK => ?_) AllReadyH.nil
        go_simp
        skip
        go_wp2_with fail
        refine hK.out _ _ (Lib.hid (K6.out.1.drew.alloc _)) (fun hHeld3 => ?_)
        clear hK K hHeld2
        try simp only [Act.put, List.setIfInBounds_toArray, List.set_cons_zero, List.set_cons_succ, List.getElem_toArray, List.getElem_cons_zero, List.getElem_cons_succ]
        refine wpAnyH_done (by kernel_rfl) ?_ _
        obtain ⟨t, ht⟩ : ∃ t, t = W6.heap.size := ⟨_, rfl⟩
        obtain ⟨W7, hW7⟩ : ∃ W7, W7 = (W6.alloc (.cells #[.int .i64 c.base.count, Str c.base.hash, .slice (some (⟨g, off, none⟩ : Addr)) k cap] 29)).drew := ⟨_, rfl⟩
        have K7 : Hid (Blk W7 b 29 #[.int .i64 c.base.count, Str c.base.hash, .slice (some (⟨g, off, none⟩ : Addr)) c.ls.length cap] ∧ Blk W7 (b + 1) 29 #[.int .i64 0, Str [], .slice none 0 0] ∧ Blk W7 t 29 #[.int .i64 c.base.count, Str c.base.hash, .slice (some (⟨g, off, none⟩ : Addr)) k cap] ∧ Row W7 8 (some (⟨g, off, none⟩ : Addr)) c.ls.length cap (lncs c.ls) ∧ Step [] [] w W7 ∧ b = w.heap.size) := by
          rw [hW7, ht]
          exact ⟨(K6.out.1.alloc _).drew, (K6.out.2.1.alloc _).drew, (Blk.new W6 _ _).drew, (K6.out.2.2.1.alloc _).drew, (K6.out.2.2.2.1.alloc _).drew, K6.out.2.2.2.2⟩
        rw [show (W6.alloc (.cells #[.int .i64 c.base.count, .string ⟨c.base.hash.toArray⟩, .slice (some (⟨g, off, none⟩ : Addr)) k cap] 29)).drew = W7 from hW7.symm, ← ht]
        clear hW7 ht K6 hHeld3
        have c0 := K7.out.1.cell 0
        have c1 := K7.out.1.cell 1
        have c2 := K7.out.1.cell 2
        have hp := K7.out.1.lt
        have t0 := K7.out.2.2.1.lt
        simp only [List.getElem?_toArray, List.getElem?_cons_zero, List.getElem?_cons_succ] at c0 c1 c2
        have q5 : (k : Int) ≤ c.ls.length := by have := HK.out.2; omega
        have q6 : k ≤ c.ls.length := HK.out.2
        have q7 : (c.ls.length : Int) ≤ cap := by have := HR.out.le; omega
        have q8 : c.ls.length ≤ cap := HR.out.le
        obtain ⟨i0, hi, hz0, hz1, hz2⟩ := info_parts Try.info_line
        have HI := Lib.hid (And.intro hi (And.intro hz0 (And.intro hz1 hz2)))
        clear hi hz0 hz1 hz2
        have HS : Hid (Row (W7.alloc (.cells #[] 32)) 8 (some (⟨g, off + k * 8, none⟩ : Addr)) (c.ls.length - k) (cap - k) (lncs (c.ls.drop k))) := Lib.hid (Row.alloc (by have := row_drop K7.out.2.2.2.1 HK.out.2; rwa [if_neg hck, Option.map_some, addr_add] at this) _)
        have HTH : Hid (∀ W, Row W 8 (some (⟨g, off, none⟩ : Addr)) k cap (lncs (c.ls.take k)) → Calls Try.prog 27 #[.agg #[.int .i64 c.base.count, Str c.base.hash, .slice (some (⟨g, off, none⟩ : Addr)) k cap]] W fun e w' => e = .returned (.tuple #[.int .i64 (headL c.base (c.ls.take k)).count, Str (headL c.base (c.ls.take k)).hash]) ∧ Step [] [] W w') := by
          intro W hw
          have hlen : (c.ls.take k).length = k := by rw [List.length_take]; exact Nat.min_eq_left HK.out.2
          have := refHead_any ⟨c.base, c.ls.take k⟩ (some (⟨g, off, none⟩ : Addr)) cap W (by simp only; rw [hlen]; exact hw) ⟨⟨hc1, hc2⟩, by simp only; omega⟩
          simp only [hlen] at this
          exact this
        obtain ⟨q, hq⟩ : ∃ q, q = headL c.base (c.ls.take k) := ⟨_, rfl⟩
        have HQ := Lib.hid hq
        rw [← hq] at HTH
        clear hq
        go_wp2_with (at_builtin; refine wpList_append_row rfl (.tmp 37) (.tmp 41) 27 27 rfl 32 i0 _ 8 88 Try.underlying27 HI.out.1 HI.out.2.1 HI.out.2.2.1 HI.out.2.2.2 rfl rfl (Row.empty W7 32 8) rfl (Src.rd 27 32 Try.underlying27 HS.out.rd (lncs_one _)) (by unfold maxLen; omega) (by omega) (by omega) ?_; intro a5 c5 w5 hr5 st5; rw [Nat.zero_add, List.nil_append] at hr5; rw [Nat.zero_add]; have H5 : Hid (Row w5 8 a5 (c.ls.length - k) c5 (lncs (c.ls.drop k)) ∧ Step [W7.heap.size] (blks a5) (W7.alloc (.cells #[] 32)) w5) := ⟨hr5, st5⟩; have t5 := ((K7.out.2.2.1.alloc (.cells #[] 32)).step st5 (by simp [blks]; omega)); have t50 := t5.cell 0; have t51 := t5.cell 1; have t52 := t5.cell 2; have t53 := t5.lt; simp only [List.getElem?_toArray, List.getElem?_cons_zero, List.getElem?_cons_succ] at t50 t51 t52; clear hr5 st5 t5 c0 c1 c2 hp t0)
        obtain ⟨z, hz⟩ : ∃ z, z = w5.heap.size := ⟨_, rfl⟩
        obtain ⟨V, hV⟩ : ∃ V, V = w5.alloc (.cells #[.int .i64 0, Str [], .slice a5 (c.ls.length - k) c5] 29) := ⟨_, rfl⟩
        have hsz5 := H5.out.2.size
        have hn5 : ∀ j, j < W7.heap.size → j ∉ [W7.heap.size] := by intro j hj; simp; omega
        have K8 : Hid (Blk V (b + 1) 29 #[.int .i64 0, Str [], .slice none 0 0] ∧ Blk V z 29 #[.int .i64 0, Str [], .slice a5 (c.ls.length - k) c5] ∧ Row V 8 (some (⟨g, off, none⟩ : Addr)) k cap (lncs (c.ls.take k)) ∧ Row V 8 a5 (c.ls.length - k) c5 (lncs (c.ls.drop k)) ∧ Step [] (blks a5) w V ∧ (∀ j, j < W7.heap.size → j ∉ blks a5) ∧ b + 1 < W7.heap.size ∧ W7.heap.size ≤ z ∧ z ∉ blks a5 ∧ w.heap.size ≤ W7.heap.size) := by
          rw [hV, hz]
          refine ⟨((K7.out.2.1.alloc _).step H5.out.2 (hn5 _ K7.out.2.1.lt)).alloc _, Blk.new w5 _ _, ?_, H5.out.1.alloc _, (step_new (K7.out.2.2.2.2.1.alloc _) H5.out.2 (by have := K7.out.2.2.2.2.1.size; simp; omega)).alloc _, fun j hj => H5.out.2.notin (by simp; omega) (hn5 j hj), K7.out.2.1.lt, by simp at hsz5; omega, fun hg => absurd (H5.out.1.lt _ hg) (Nat.lt_irrefl _), K7.out.2.2.2.2.1.size⟩
          rw [lncs_take _ _ HK.out.2]
          exact (((K7.out.2.2.2.1.pre k HK.out.2).alloc _).step H5.out.2 (fun g hg => hn5 g (K7.out.2.2.2.1.lt g hg))).alloc _
        rw [show w5.alloc (.cells #[.int .i64 0, .string ⟨#[]⟩, .slice a5 (c.ls.length - k) c5] 29) = V from hV.symm, ← hz]
        clear hV hz hsz5 hn5 t50 t51 t52 t53
        refine (HTH.out V K8.out.2.2.1).mono ?_
        rintro e w9 ⟨rfl, k9⟩
        have K9 : Hid (Blk w9 (b + 1) 29 #[.int .i64 0, Str [], .slice none 0 0] ∧ Blk w9 z 29 #[.int .i64 0, Str [], .slice a5 (c.ls.length - k) c5] ∧ Row w9 8 a5 (c.ls.length - k) c5 (lncs (c.ls.drop k)) ∧ Step [] (blks a5) w w9 ∧ b + 1 ≠ z ∧ b + 1 ∉ blks a5 ∧ z ∉ blks a5 ∧ w.heap.size ≤ z ∧ b = w.heap.size) :=
          ⟨K8.out.1.step k9 (by simp), K8.out.2.1.step k9 (by simp), K8.out.2.2.2.1.step k9 (by simp), K8.out.2.2.2.2.1.trans (k9.up _), by have := K8.out.2.2.2.2.2.2.1; have := K8.out.2.2.2.2.2.2.2.1; omega, K8.out.2.2.2.2.2.1 _ K8.out.2.2.2.2.2.2.1, K8.out.2.2.2.2.2.2.2.2.1, Nat.le_trans K8.out.2.2.2.2.2.2.2.2.2 K8.out.2.2.2.2.2.2.2.1, K7.out.2.2.2.2.2⟩
        clear k9 K8 K7 H5 HS HTH
        have zz := K9.out.2.1.lt
        have zf0 := K9.out.2.1.frozen 0
        have zf1 := K9.out.2.1.frozen 1
        have zc0 := K9.out.2.1.cell 0
        have zc1 := K9.out.2.1.cell 1
        simp only [List.getElem?_toArray, List.getElem?_cons_zero, List.getElem?_cons_succ] at zc0 zc1
        go_upto_region 7 with fail
        obtain ⟨W9, hW9⟩ : ∃ W9, W9 = (w9.setCell ⟨z, 0, none⟩ (.int .i64 q.count)).setCell ⟨z, 1, none⟩ (Str q.hash) := ⟨_, rfl⟩
        have L9 : Hid (Blk W9 (b + 1) 29 #[.int .i64 0, Str [], .slice none 0 0] ∧ Blk W9 z 29 #[.int .i64 q.count, Str q.hash, .slice a5 (c.ls.length - k) c5] ∧ Row W9 8 a5 (c.ls.length - k) c5 (lncs (c.ls.drop k)) ∧ Step [] (blks a5) w W9 ∧ b + 1 ∉ blks a5 ∧ b = w.heap.size) := by
          rw [hW9]
          have ss : Step [z] [z] w9 ((w9.setCell ⟨z, 0, none⟩ (.int .i64 q.count)).setCell ⟨z, 1, none⟩ (Str q.hash)) := ((Step.refl _ w9).setCell (.inl (by simp)) _).setCell (.inl (by simp)) _
          refine ⟨K9.out.1.step ss (by simpa using K9.out.2.2.2.2.1), ?_, K9.out.2.2.1.step ss (fun g hg e => by simp at e; subst e; exact K9.out.2.2.2.2.2.2.1 hg), (K9.out.2.2.2.1.setCell (.inr K9.out.2.2.2.2.2.2.2.1) _).setCell (.inr K9.out.2.2.2.2.2.2.2.1) _, K9.out.2.2.2.2.2.1, K9.out.2.2.2.2.2.2.2.2⟩
          simpa using (K9.out.2.1.set 0 (.int .i64 q.count)).set 1 (Str q.hash)
        rw [← hW9]
        clear hW9 K9 zz zf0 zf1 zc0 zc1
        have e0 := L9.out.2.1.cell 0
        have e1 := L9.out.2.1.cell 1
        have e2 := L9.out.2.1.cell 2
        have e3 := L9.out.2.1.lt
        have z1 := L9.out.1.lt
        have zf0 := L9.out.1.frozen 0
        have zf1 := L9.out.1.frozen 1
        have zf2 := L9.out.1.frozen 2
        have zc0 := L9.out.1.cell 0
        have zc1 := L9.out.1.cell 1
        have zc2 := L9.out.1.cell 2
        simp only [List.getElem?_toArray, List.getElem?_cons_zero, List.getElem?_cons_succ] at e0 e1 e2 zc0 zc1 zc2
        go_wp2_with fail
        have P3 := Blk.put3 L9.out.1 (.int .i64 q.count) (Str q.hash) (.slice a5 (c.ls.length - k) c5)
        have SS : Step [b + 1] [b + 1] W9 (((W9.setCell ⟨b + 1, 0, none⟩ (.int .i64 q.count)).setCell ⟨b + 1, 1, none⟩ (Str q.hash)).setCell ⟨b + 1, 2, none⟩ (.slice a5 (c.ls.length - k) c5)) := (((Step.refl _ W9).setCell (.inl (by simp)) _).setCell (.inl (by simp)) _).setCell (.inl (by simp)) _
        have hbw := L9.out.2.2.2.2.2
        have SW : Step [] (blks a5) w (((W9.setCell ⟨b + 1, 0, none⟩ (.int .i64 q.count)).setCell ⟨b + 1, 1, none⟩ (Str q.hash)).setCell ⟨b + 1, 2, none⟩ (.slice a5 (c.ls.length - k) c5)) := ((L9.out.2.2.2.1.setCell (.inr (by simp; omega)) _).setCell (.inr (by simp; omega)) _).setCell (.inr (by simp; omega)) _
        have hkk : (n - c.base.count).toNat = k := by have := HK.out.1; omega
        have hcut : cutL c n = ⟨q, c.ls.drop k⟩ := by rw [cutL, if_pos hYES.out, hkk, ← HQ.out]
        have hdl : (c.ls.drop k).length = (c.ls.length - k) := by rw [List.length_drop]
        refine bodyPost_ret (v := .tuple #[.agg #[.int .i64 q.count, Str q.hash, .slice a5 (c.ls.length - k) c5], .bool true]) ?_ rfl ⟨a5, c5, ?_, ?_, SW.drop (by simp), ?_⟩
        · simp [results, Try.results13, go_sem, P3]
        · rw [hcut, hYES.out]; simp only [hdl]
        · rw [hcut]
          simp only [hdl]
          exact L9.out.2.2.1.step SS (fun g hg e => by simp at e; subst e; exact L9.out.2.2.2.2.1 hg)
        · intro g hg
          rcases SW.fresh g hg with h9 | h9
          · simp at h9
          · exact .inr h9
end Go.Proofs.Ytdiacfbflbenoaa
