/-
  token.told, token.Read, and the reference's Read. Conditions: texts of at most 2^40 bytes; utf8's tables as Go lays them.
-/
import Derived.Test.YtoabhjngcajmiaaDoorTokenOwn
namespace Go.Proofs.YtoabhjngcajmiaaDoor
open Go.RowKit Go.Lib
set_option linter.unusedSimpArgs false
set_option linter.unusedVariables false

theorem told_case (t : List UInt8) :
    ((rnum ⟨t, false⟩).1 ≠ 1 ∧ toldL t = ⟨[], 0⟩) ∨
    ((rnum ⟨t, false⟩).1 = 1 ∧ rend (rtext (upto (rtext (rnum ⟨t, false⟩).2 96).2 1099511627776).2 32).2 ≠ 0 ∧ toldL t = ⟨[], 0⟩) ∨
    ((rnum ⟨t, false⟩).1 = 1 ∧ rend (rtext (upto (rtext (rnum ⟨t, false⟩).2 96).2 1099511627776).2 32).2 = 0 ∧ toldL t = ⟨(rtext (rnum ⟨t, false⟩).2 96).1, (upto (rtext (rnum ⟨t, false⟩).2 96).2 1099511627776).1⟩) := by
  unfold toldL
  by_cases h : (rnum ⟨t, false⟩).1 ≠ 1
  · exact .inl ⟨h, by rw [if_pos h]⟩
  · rw [if_neg h]
    by_cases h2 : rend (rtext (upto (rtext (rnum ⟨t, false⟩).2 96).2 1099511627776).2 32).2 ≠ 0
    · exact .inr (.inl ⟨by omega, h2, by rw [if_pos h2]⟩)
    · exact .inr (.inr ⟨by omega, by omega, by rw [if_neg h2]⟩)

theorem Blk.put2 {w : World} {b : Nat} {T : TypeId} {x y : Value} (h : Blk w b T #[x, y]) (u v : Value) : (w.setCell ⟨b, 0, none⟩ u).cell? ⟨b, 0, none⟩ = some u ∧ ((w.setCell ⟨b, 0, none⟩ u).setCell ⟨b, 1, none⟩ v).cell? ⟨b, 1, none⟩ = some v := by
  have h1 := (Blk.set h 0 u).cell 0
  have h2 := ((Blk.set h 0 u).set 1 v).cell 1
  exact ⟨by simpa using h1, by simpa using h2⟩

set_option maxHeartbeats 1000000 in
theorem told_any (t : List UInt8) (w : World) (ht : t.length ≤ 1099511627776) :
    Calls Tryd.prog 21 #[Str t] w fun e w' => e = .returned (.agg #[Str (toldL t).user, .int .i64 (toldL t).rev]) ∧ Step [] [] w w' := by
  have hcase := told_case t
  have hl1 : (rnum ⟨t, false⟩).2.s.length ≤ t.length := upto_len ⟨t, false⟩ _
  obtain ⟨n1, q1, e1⟩ : ∃ n1 q1, rnum ⟨t, false⟩ = (n1, q1) := ⟨_, _, rfl⟩
  rw [e1] at hcase hl1
  have hl2 := rtext_len q1 96
  obtain ⟨u2, q2, e2⟩ : ∃ u2 q2, rtext q1 96 = (u2, q2) := ⟨_, _, rfl⟩
  simp only at hcase hl1
  rw [e2] at hcase hl2
  simp only at hcase hl2
  have hl3 := upto_len q2 1099511627776
  obtain ⟨n3, q3, e3⟩ : ∃ n3 q3, upto q2 1099511627776 = (n3, q3) := ⟨_, _, rfl⟩
  rw [e3] at hcase hl3
  simp only at hcase hl3
  have hl4 := rtext_len q3 32
  obtain ⟨u4, q4, e4⟩ : ∃ u4 q4, rtext q3 32 = (u4, q4) := ⟨_, _, rfl⟩
  rw [e4] at hcase hl4
  simp only at hcase hl4
  have c1 := rnum_any (w.heap.size + 1) ⟨t, false⟩
  rw [e1] at c1
  have c2 := rtext_any (w.heap.size + 1) q1 96
  rw [e2] at c2
  have c3 := upto_any (w.heap.size + 1) q2 1099511627776
  rw [e3] at c3
  have c4 := rtext_any (w.heap.size + 1) q3 32
  rw [e4] at c4
  have C := Lib.hid (And.intro c1 (And.intro c2 (And.intro c3 c4)))
  have HCASE : Hid ((n1 ≠ 1 ∧ toldL t = ⟨[], 0⟩) ∨ (n1 = 1 ∧ ((rend q4 ≠ 0 ∧ toldL t = ⟨[], 0⟩) ∨ (rend q4 = 0 ∧ toldL t = ⟨u2, n3⟩)))) := by
    rcases hcase with h | ⟨h1, h2⟩ | ⟨h1, h2⟩
    · exact .inl h
    · exact .inr ⟨h1, .inl h2⟩
    · exact .inr ⟨h1, .inr h2⟩
  clear c1 c2 c3 c4 e1 e2 e3 e4 hcase
  go_enter Tryd.func21, Tryd.ntmps21
  go_wp2_with fail
  refine (read_any t _).mono ?_
  rintro e w1 ⟨rfl, hw⟩
  have HR1 : Hid (Rdr w1 (w.heap.size + 1) ⟨t, false⟩ ∧ Step [] [w.heap.size + 1, w.heap.size] w w1 ∧ Blk w1 w.heap.size 45 #[Str [], .int .i64 0]) := by
    subst hw
    have h0 : (w.alloc (.cells #[Str [], .int .i64 0] 45)).heap.size = w.heap.size + 1 := by simp
    have h1 := Blk.new (w.alloc (.cells #[Str [], .int .i64 0] 45)) 78 #[Str t, .bool false]
    have h2 := ((Step.refl [] w).hold (.cells #[Str [], .int .i64 0] 45)).hold (.cells #[Str t, .bool false] 78)
    rw [h0] at h1 h2
    exact ⟨h1, h2, (Blk.new w _ _).alloc _⟩
  clear hw
  go_wp2_with fail
  refine (C.out.1 _ HR1.out.1 (by omega)).mono ?_
  rintro e w2 ⟨rfl, g2, k2⟩
  have HR2 : Hid (Rdr w2 (w.heap.size + 1) q1 ∧ Step [] [w.heap.size + 1, w.heap.size] w w2 ∧ Blk w2 w.heap.size 45 #[Str [], .int .i64 0]) :=
    ⟨g2, HR1.out.2.1.trans (k2.frameR [w.heap.size]), HR1.out.2.2.step k2 (by simp)⟩
  clear g2 k2
  rcases HCASE.out with ⟨h1, h2⟩ | ⟨h1, h⟩
  · have h1' : (n1 == 1) = false := by simp; omega
    have h1'' : (n1 != 1) = true := by simp; omega
    have H2 := Lib.hid h2
    have b0 := HR2.out.2.2.cell 0
    have b1 := HR2.out.2.2.cell 1
    have f0 := HR2.out.2.2.frozen 0
    have f1 := HR2.out.2.2.frozen 1
    simp only [List.getElem?_toArray, List.getElem?_cons_zero, List.getElem?_cons_succ] at b0 b1
    clear h1 h2
    go_wp2_with fail
    refine bodyPost_ret (v := .agg #[Str [], .int .i64 0]) ?_ rfl ⟨?_, ?_⟩
    · have d := HR2.out.2.2.put2 (Str []) (.int .i64 0)
      simp [results, Tryd.results21, go_sem, d.1, d.2]
    · rw [H2.out]
    · exact ((HR2.out.2.1.setCell (.inr (Nat.le_refl _)) _).setCell (.inr (Nat.le_refl _)) _).drop (by simp)
  · have h1' : (n1 == 1) = true := by simp; omega
    have h1'' : (n1 != 1) = false := by simp; omega
    have H := Lib.hid h
    clear h1 h
    go_wp2_with fail
    refine (C.out.2.1 _ HR2.out.1 (by omega)).mono ?_
    rintro e w3 ⟨rfl, g3, k3⟩
    have HR3 : Hid (Rdr w3 (w.heap.size + 1) q2 ∧ Step [] [w.heap.size + 1, w.heap.size] w w3 ∧ Blk w3 w.heap.size 45 #[Str [], .int .i64 0]) :=
      ⟨g3, HR2.out.2.1.trans (k3.frameR [w.heap.size]), HR2.out.2.2.step k3 (by simp)⟩
    clear g3 k3
    go_wp2_with fail
    refine (C.out.2.2.1 _ HR3.out.1 (by omega)).mono ?_
    rintro e w4 ⟨rfl, g4, k4⟩
    have HR4 : Hid (Rdr w4 (w.heap.size + 1) q3 ∧ Step [] [w.heap.size + 1, w.heap.size] w w4 ∧ Blk w4 w.heap.size 45 #[Str [], .int .i64 0]) :=
      ⟨g4, HR3.out.2.1.trans (k4.frameR [w.heap.size]), HR3.out.2.2.step k4 (by simp)⟩
    clear g4 k4
    have HL : Hid (∀ (cs : Array Value) (T : TypeId), Rdr (w4.alloc (.cells cs T)) (w.heap.size + 1) q3 ∧ Step [] [w.heap.size + 1, w.heap.size] w (w4.alloc (.cells cs T)) ∧ Blk (w4.alloc (.cells cs T)) w.heap.size 45 #[Str [], .int .i64 0]) :=
      fun cs T => ⟨Blk.alloc HR4.out.1 _, HR4.out.2.1.alloc _, HR4.out.2.2.alloc _⟩
    go_wp2_with fail
    refine (C.out.2.2.2 _ (HL.out _ _).1 (by omega)).mono ?_
    rintro e w5 ⟨rfl, g5, k5⟩
    have HR5 : Hid (Rdr w5 (w.heap.size + 1) q4 ∧ Step [] [w.heap.size + 1, w.heap.size] w w5 ∧ Blk w5 w.heap.size 45 #[Str [], .int .i64 0] ∧ Blk w5 w4.heap.size 45 #[Str u2, .int .i64 n3]) := by
      have hlt := (HR4.out.1 : Blk _ _ _ _).lt
      exact ⟨g5, (HL.out _ _).2.1.trans (k5.frameR [w.heap.size]), (HL.out _ _).2.2.step k5 (by simp), (Blk.new w4 _ _).step k5 (by simp; omega)⟩
    clear g5 k5
    go_wp2_with fail
    refine (end_any _ q4 _ HR5.out.1).mono ?_
    rintro e w6 ⟨rfl, rfl⟩
    have n0 := HR5.out.2.2.2.cell 0
    have n2 := HR5.out.2.2.2.cell 1
    simp only [List.getElem?_toArray, List.getElem?_cons_zero, List.getElem?_cons_succ] at n0 n2
    have b0 := HR5.out.2.2.1.cell 0
    have b1 := HR5.out.2.2.1.cell 1
    have f0 := HR5.out.2.2.1.frozen 0
    have f1 := HR5.out.2.2.1.frozen 1
    simp only [List.getElem?_toArray, List.getElem?_cons_zero, List.getElem?_cons_succ] at b0 b1
    rcases H.out with ⟨h3, h2⟩ | ⟨h3, h2⟩
    · have h3' : (rend q4 == 0) = false := by simpa using h3
      have h3'' : (rend q4 != 0) = true := by simpa using h3
      have H2 := Lib.hid h2
      clear h3 h2
      go_wp2_with fail
      refine bodyPost_ret (v := .agg #[Str [], .int .i64 0]) ?_ rfl ⟨?_, ?_⟩
      · have d := HR5.out.2.2.1.put2 (Str []) (.int .i64 0)
        simp [results, Tryd.results21, go_sem, d.1, d.2]
      · rw [H2.out]
      · exact ((HR5.out.2.1.setCell (.inr (Nat.le_refl _)) _).setCell (.inr (Nat.le_refl _)) _).drop (by simp)
    · have h3' : (rend q4 == 0) = true := by simpa using h3
      have h3'' : (rend q4 != 0) = false := by simpa using h3
      have H2 := Lib.hid h2
      clear h3 h2
      go_wp2_with fail
      refine bodyPost_ret (v := .agg #[Str u2, .int .i64 n3]) ?_ rfl ⟨?_, ?_⟩
      · have d := HR5.out.2.2.1.put2 (Str u2) (.int .i64 n3)
        simp [results, Tryd.results21, go_sem, d.1, d.2]
      · rw [H2.out]
      · exact ((HR5.out.2.1.setCell (.inr (Nat.le_refl _)) _).setCell (.inr (Nat.le_refl _)) _).drop (by simp)

theorem read_case (secret t : List UInt8) :
    ((toldL t).user = [] ∧ (toldL t).rev = 0 ∧ readL secret t = (([], 0), false)) ∨
    (¬ ((toldL t).user = [] ∧ (toldL t).rev = 0) ∧ mintL secret (toldL t).user (toldL t).rev ≠ t ∧ readL secret t = (([], 0), false)) ∨
    (¬ ((toldL t).user = [] ∧ (toldL t).rev = 0) ∧ mintL secret (toldL t).user (toldL t).rev = t ∧ readL secret t = (((toldL t).user, (toldL t).rev), true)) := by
  unfold readL
  by_cases h : (toldL t).user = [] ∧ (toldL t).rev = 0
  · exact .inl ⟨h.1, h.2, by rw [if_pos h]⟩
  · rw [if_neg h]
    by_cases h2 : mintL secret (toldL t).user (toldL t).rev = t
    · exact .inr (.inr ⟨h, h2, by rw [if_pos h2]⟩)
    · exact .inr (.inl ⟨h, h2, by rw [if_neg h2]⟩)
theorem told_len (t : List UInt8) : (toldL t).user.length ≤ t.length := by
  have h1 : (rnum ⟨t, false⟩).2.s.length ≤ t.length := upto_len ⟨t, false⟩ _
  have h2 := rtext_len (rnum ⟨t, false⟩).2 96
  rcases told_case t with ⟨_, h⟩ | ⟨_, _, h⟩ | ⟨_, _, h⟩
  · rw [h]; simp
  · rw [h]; simp
  · rw [h]; simp only; omega

set_option maxHeartbeats 1000000 in
theorem read2_any (secret t : List UInt8) (w : World) (hs : secret.length ≤ 1099511627776) (ht : t.length ≤ 1099511627776) (hT : Tabs w) :
    Calls Tryd.prog 11 #[Str secret, Str t] w fun e w' => e = .returned (.tuple #[Str (readL secret t).1.1, .int .i64 (readL secret t).1.2, .bool (readL secret t).2]) ∧ Step [] [] w w' := by
  have hcase := read_case secret t
  have hul := told_len t
  have ct := told_any t
  obtain ⟨u, n, hun⟩ : ∃ u n, toldL t = ⟨u, n⟩ := ⟨_, _, rfl⟩
  rw [hun] at hcase hul ct
  simp only at hcase hul ct
  have HCASE := Lib.hid hcase
  have HC := Lib.hid ct
  have HT := Lib.hid hT
  clear hcase ct hun hT
  go_enter Tryd.func11, Tryd.ntmps11
  go_wp2_with fail
  refine (HC.out w ht).mono ?_
  rintro e w1 ⟨rfl, k1⟩
  have H1 := Lib.hid k1
  clear k1
  rcases HCASE.out with ⟨h1, h2, h3⟩ | h
  · subst h1 h2
    have H3 := Lib.hid h3
    clear h3
    go_wp2_with fail
    refine bodyPost_ret (results_tmp3 rfl _ _ _) rfl ⟨by rw [H3.out]; rfl, H1.out.alloc _⟩
  · have h : ¬ (u = [] ∧ n = 0) ∧ ((mintL secret u n ≠ t ∧ readL secret t = (([], 0), false)) ∨ (mintL secret u n = t ∧ readL secret t = ((u, n), true))) := by
      rcases h with ⟨h1, h2, h3⟩ | ⟨h1, h2, h3⟩
      · exact ⟨h1, .inl ⟨h2, h3⟩⟩
      · exact ⟨h1, .inr ⟨h2, h3⟩⟩
    obtain ⟨hne, h⟩ := h
    have hm : ∀ (cs : Array Value) (T : TypeId), Calls Tryd.prog 9 #[Str secret, Str u, .int .i64 n] (w1.alloc (.cells cs T)) fun e w' => e = .returned (Str (mintL secret u n)) ∧ Step [] [] (w1.alloc (.cells cs T)) w' :=
      fun cs T => mint_any secret u n _ hs (by omega) (HT.out.step (H1.out.alloc _))
    generalize mintL secret u n = m at *
    have H := Lib.hid h
    have HM := Lib.hid hm
    clear hm
    have hnew := fun (w2 : World) (k : Step [] [] (w1.alloc (.cells #[Str u, .int .i64 n] 45)) w2) => (Blk.new w1 45 #[Str u, .int .i64 n]).step k (by simp)
    have HN := Lib.hid hnew
    clear h hnew HCASE HC
    have hc2 : (∃ a u', u = a :: u') ∨ (u = [] ∧ (n == 0) = false) := by
      cases u with
      | nil => exact .inr ⟨rfl, by simpa using hne⟩
      | cons a u' => exact .inl ⟨a, u', rfl⟩
    clear hne
    rcases hc2 with ⟨a, u', rfl⟩ | ⟨rfl, hn⟩
    all_goals
      go_wp2_with fail
      refine (HM.out _ _).mono ?_
      rintro e w2 ⟨rfl, k2⟩
      have B := HN.out w2 k2
      have n0 := B.cell 0
      have n2 := B.cell 1
      simp only [List.getElem?_toArray, List.getElem?_cons_zero, List.getElem?_cons_succ] at n0 n2
      have H2 := Lib.hid ((H1.out.alloc _).trans k2)
      clear k2 B
      rcases H.out with ⟨h2, h3⟩ | ⟨h2, h3⟩
      · have H3 := Lib.hid h3
        clear h3
        have hmt : (m == t) = false := by simpa using h2
        clear h2
        go_wp2_with fail
        refine bodyPost_ret (results_tmp3 rfl _ _ _) rfl ⟨by rw [H3.out]; rfl, H2.out⟩
      · have H3 := Lib.hid h3
        clear h3
        have hmt : (m == t) = true := by simpa using h2
        clear h2
        go_wp2_with fail
        go_quiet (fail)
        go_wp2_with fail
        refine bodyPost_ret (results_tmp3 rfl _ _ _) rfl ⟨by rw [H3.out]; rfl, H2.out.drewN _⟩
end Go.Proofs.YtoabhjngcajmiaaDoor
