/-
  Layer 17's reference: Read. Conditions: texts of at most 2^40 bytes.
-/
import Derived.Test.YtoabhjngcajmiaaDoorTokenRead
namespace Go.Proofs.YtoabhjngcajmiaaDoor
open Go.RowKit Go.Lib
set_option linter.unusedSimpArgs false
set_option linter.unusedVariables false

theorem refRead_case (secret t u : List UInt8) (n : Int) (q1 q2 q3 : RS) (e1 : (upto ⟨t, false⟩ 1).2 = q1) (e2 : rtext q1 96 = (u, q2)) (e3 : upto q2 1099511627776 = (n, q3)) :
    (q3.bad = true ∧ refReadL secret t = (([], 0), false)) ∨
    (q3.bad = false ∧ t = [] ∧ refReadL secret t = (([], 0), false)) ∨
    (q3.bad = false ∧ t ≠ [] ∧ mintL secret u n ≠ t ∧ refReadL secret t = (([], 0), false)) ∨
    (q3.bad = false ∧ t ≠ [] ∧ mintL secret u n = t ∧ refReadL secret t = ((u, n), true)) := by
  unfold refReadL rst
  rw [e1]
  simp only [e2, e3]
  cases hb : q3.bad with
  | true => exact .inl ⟨rfl, by rw [if_neg (by simp)]⟩
  | false =>
    by_cases h1 : t = []
    · exact .inr (.inl ⟨rfl, h1, by rw [if_neg (by simp [h1])]⟩)
    · by_cases h2 : mintL secret u n = t
      · exact .inr (.inr (.inr ⟨rfl, h1, h2, by rw [if_pos ⟨rfl, h1, h2⟩]⟩))
      · exact .inr (.inr (.inl ⟨rfl, h1, h2, by rw [if_neg (by simp [h2])]⟩))

set_option maxHeartbeats 1000000 in
theorem refRead_any (secret t : List UInt8) (w : World) (hs : secret.length ≤ 1099511627776) (ht : t.length ≤ 1099511627776) :
    Calls Tryd.prog 12 #[Str secret, Str t] w fun e w' => e = .returned (.tuple #[Str (refReadL secret t).1.1, .int .i64 (refReadL secret t).1.2, .bool (refReadL secret t).2]) ∧ Step [] [] w w' := by
  have hl1 := upto_len ⟨t, false⟩ 1
  obtain ⟨n1, q1, e1⟩ : ∃ n1 q1, upto ⟨t, false⟩ 1 = (n1, q1) := ⟨_, _, rfl⟩
  have hl2 := rtext_len q1 96
  obtain ⟨u, q2, e2⟩ : ∃ u q2, rtext q1 96 = (u, q2) := ⟨_, _, rfl⟩
  have hl3 := upto_len q2 1099511627776
  obtain ⟨n, q3, e3⟩ : ∃ n q3, upto q2 1099511627776 = (n, q3) := ⟨_, _, rfl⟩
  have hcase := refRead_case secret t u n q1 q2 q3 (by rw [e1]) e2 e3
  have c1 := refNum_any w.heap.size ⟨t, false⟩ 1
  have c2 := refText_any w.heap.size q1 96
  have c3 := refNum_any w.heap.size q2 1099511627776
  rw [e1] at hl1 c1
  rw [e2] at hl2 c2
  rw [e3] at hl3 c3
  simp only at hl1 hl2 hl3 c1 c2 c3
  have C := Lib.hid (And.intro c1 (And.intro c2 c3))
  have hm := fun (w2 : World) => refMint_any secret u n w2 hs (by omega)
  generalize mintL secret u n = m at *
  have HM := Lib.hid hm
  have HCASE : Hid ((q3.bad = true ∧ refReadL secret t = (([], 0), false)) ∨ (q3.bad = false ∧ ((t = [] ∧ refReadL secret t = (([], 0), false)) ∨ (t ≠ [] ∧ ((m ≠ t ∧ refReadL secret t = (([], 0), false)) ∨ (m = t ∧ refReadL secret t = ((u, n), true))))))) := by
    rcases hcase with h | ⟨h1, h2, h3⟩ | ⟨h1, h2, h3, h4⟩ | ⟨h1, h2, h3, h4⟩
    · exact .inl h
    · exact .inr ⟨h1, .inl ⟨h2, h3⟩⟩
    · exact .inr ⟨h1, .inr ⟨h2, .inl ⟨h3, h4⟩⟩⟩
    · exact .inr ⟨h1, .inr ⟨h2, .inr ⟨h3, h4⟩⟩⟩
  clear hcase c1 c2 c3 e1 e2 e3 hm
  go_enter Tryd.func12, Tryd.ntmps12
  go_wp2_with fail
  have H0 : Hid (Ref (w.alloc (.cells #[Str t, .bool false] 48)) w.heap.size ⟨t, false⟩ ∧ Step [] [w.heap.size] w (w.alloc (.cells #[Str t, .bool false] 48))) := ⟨Blk.new w _ _, (Step.refl [] w).hold _⟩
  refine (C.out.1 _ H0.out.1 (by omega)).mono ?_
  rintro e w1 ⟨rfl, g1, k1⟩
  have H1 := Lib.hid (And.intro g1 (H0.out.2.trans k1))
  clear g1 k1
  go_wp2_with fail
  refine (C.out.2.1 _ H1.out.1 (by omega)).mono ?_
  rintro e w2 ⟨rfl, g2, k2⟩
  have H2 := Lib.hid (And.intro g2 (H1.out.2.trans k2))
  clear g2 k2
  go_wp2_with fail
  refine (C.out.2.2 _ H2.out.1 (by omega)).mono ?_
  rintro e w3 ⟨rfl, g3, k3⟩
  have H3 := Lib.hid (And.intro g3 (H2.out.2.trans k3))
  clear g3 k3
  have hc1 := H3.out.1.c1
  rcases HCASE.out with ⟨h1, h2⟩ | ⟨h1, h⟩
  · rw [h1] at hc1
    have HE := Lib.hid h2
    clear h1 h2
    go_wp2_with fail
    refine bodyPost_ret (results_tmp3 rfl _ _ _) rfl ⟨by rw [HE.out]; rfl, H3.out.2.drop (by simp)⟩
  · rw [h1] at hc1
    have H := Lib.hid h
    clear h1 h
    rcases H.out with ⟨h1, h2⟩ | ⟨h1, h⟩
    · subst h1
      have HE := Lib.hid h2
      clear h2
      go_wp2_with fail
      refine bodyPost_ret (results_tmp3 rfl _ _ _) rfl ⟨by rw [HE.out]; rfl, H3.out.2.drop (by simp)⟩
    · obtain ⟨a, t', rfl⟩ : ∃ a t', t = a :: t' := by
        cases t with
        | nil => exact absurd rfl h1
        | cons a t' => exact ⟨a, t', rfl⟩
      have H4 := Lib.hid h
      clear h1 h
      go_wp2_with fail
      refine (HM.out w3).mono ?_
      rintro e w4 ⟨rfl, k4⟩
      have H5 := Lib.hid (H3.out.2.trans (k4.keep _))
      clear k4
      rcases H4.out with ⟨h1, h2⟩ | ⟨h1, h2⟩
      · have hmt : (m == a :: t') = false := by simpa using h1
        have HE := Lib.hid h2
        clear h1 h2
        go_wp2_with fail
        refine bodyPost_ret (results_tmp3 rfl _ _ _) rfl ⟨by rw [HE.out]; rfl, H5.out.drop (by simp)⟩
      · have hmt : (m == a :: t') = true := by simpa using h1
        have HE := Lib.hid h2
        clear h1 h2
        go_wp2_with fail
        refine bodyPost_ret (results_tmp3 rfl _ _ _) rfl ⟨by rw [HE.out]; rfl, H5.out.drop (by simp)⟩
end Go.Proofs.YtoabhjngcajmiaaDoor
