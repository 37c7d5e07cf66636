/-
  The plain side of PackOne: what is read without a fault was written just so. No condition.
-/
import Derived.Test.YtjfaplmojpldhaaPackBackPlain
namespace Go.Proofs.Ytjfaplmojpldhaa
set_option linter.unusedSimpArgs false
set_option linter.unusedVariables false
set_option maxRecDepth 100000

theorem be_val (m : List UInt8) (h : m.head? ≠ some 0) : be (val m) = m := by
  suffices H : ∀ (k : Nat) (m : List UInt8), m.length = k → m.head? ≠ some 0 → be (val m) = m from H _ m rfl h
  intro k
  induction k with
  | zero => intro m hm _; rw [List.eq_nil_of_length_eq_zero hm]; simp [val, be_zero]
  | succ k ih =>
    intro m hm hh
    obtain ⟨m', c, rfl⟩ : ∃ m' c, m = m' ++ [c] := ⟨m.dropLast, m.getLast (by intro e; rw [e] at hm; simp at hm), (List.dropLast_concat_getLast _).symm⟩
    simp at hm
    rw [val_snoc]
    have hc := c.toNat_lt
    have hof : UInt8.ofNat (val m' * 256 + c.toNat) = c := by
      apply UInt8.toNat_inj.1
      simp [UInt8.toNat_ofNat']
    by_cases h0 : m' = []
    · subst h0
      have hc0 : c.toNat ≠ 0 := by
        intro e
        apply hh
        simp
        exact UInt8.toNat_inj.1 (by simpa using e)
      rw [be_pos _ (by simp [val]; omega), hof]
      have : (val [] * 256 + c.toNat) / 256 = 0 := by simp [val]; omega
      rw [this, be_zero]
    · rw [head_app _ _ h0] at hh
      have hm' := ih m' hm hh
      have hv : 0 < val m' := by
        rcases Nat.eq_zero_or_pos (val m') with e | e
        · rw [e, be_zero] at hm'; exact absurd hm'.symm h0
        · exact e
      rw [be_pos _ (by omega), hof, show (val m' * 256 + c.toNat) / 256 = val m' by omega, hm']

theorem upto_was (st : RS) (most n : Int) (r : List UInt8) (h : upto st most = (n, ⟨r, false⟩)) : st.bad = false ∧ st.s = numB n.toNat ++ r ∧ 0 ≤ n ∧ n ≤ 4611686018427387903 ∧ n ≤ most := by
  obtain ⟨s, bad⟩ := st
  unfold upto at h
  cases bad with
  | true => simp [rfail] at h
  | false =>
    cases s with
    | nil => simp [rfail] at h
    | cons hd rest =>
      simp only [Bool.false_eq_true, if_false] at h
      split at h
      · simp [rfail] at h
      · rename_i hc
        unfold uptoFin at h
        split at h
        · simp [rfail] at h
        · rename_i hf
          simp only [Prod.mk.injEq, RS.mk.injEq, and_true] at h
          obtain ⟨rfl, rfl⟩ := h
          have hl : (rest.take hd.toNat).length = hd.toNat := by rw [List.length_take]; omega
          have hb : be (val (rest.take hd.toNat)) = rest.take hd.toNat := by
            refine be_val _ ?_
            by_cases h0 : hd.toNat = 0
            · rw [h0]; simp
            · intro e
              apply hc
              refine .inr (.inr ⟨by omega, ?_⟩)
              rw [← e]
              cases rest with
              | nil => simp
              | cons c rest => obtain ⟨m, hm⟩ : ∃ m, hd.toNat = m + 1 := ⟨hd.toNat - 1, by omega⟩; rw [hm]; rfl
          refine ⟨rfl, ?_, by omega, by omega, by omega⟩
          rw [Int.toNat_natCast, numB, hb, hl]
          simp

theorem text_was (st : RS) (most : Int) (t r : List UInt8) (h : rtext st most = (t, ⟨r, false⟩)) : st.bad = false ∧ st.s = numB t.length ++ t ++ r := by
  unfold rtext rtake at h
  split at h
  · simp [rfail] at h
  · rename_i hc
    obtain ⟨n, s2, b2, hu⟩ : ∃ n s2 b2, upto st most = (n, ⟨s2, b2⟩) := ⟨_, _, _, rfl⟩
    rw [hu] at h hc
    simp only at h hc
    have hb2 : b2 = false := by cases b2 <;> simp_all
    subst hb2
    obtain ⟨h1, h2, h3, h4, h5⟩ := upto_was _ _ _ _ hu
    simp at h hc
    obtain ⟨rfl, rfl⟩ := h
    refine ⟨h1, ?_⟩
    rw [h2, List.length_take, Nat.min_eq_left (by omega), List.append_assoc, List.take_append_drop]

theorem upto_le (st : RS) (most : Int) : (upto st most).1 ≤ 4611686018427387903 := by
  unfold upto
  split
  · simp
  · split
    · simp
    · split
      · simp
      · unfold uptoFin
        split
        · simp
        · simp only; omega
theorem rtake_len (st : RS) (n : Nat) : (rtake st n).1.length ≤ st.s.length ∧ (rtake st n).2.s.length ≤ st.s.length := by unfold rtake; split <;> simp [rfail]; omega
theorem rtext_len (st : RS) (most : Int) : (rtext st most).1.length ≤ st.s.length ∧ (rtext st most).2.s.length ≤ st.s.length := by
  have h1 := rtake_len (upto st most).2 (upto st most).1.toNat
  have h2 := upto_len st most
  unfold rtext
  omega

/-- The reader and the writer together have all of the text, or there was a fault. -/
def OneInv (s : List UInt8) (rs : RS) (ws : WS) : Prop := rs.s.length ≤ 100000 ∧ (rs.bad = true ∨ (ws.f = 0 ∧ ws.b ++ rs.s = s))

theorem one_num (s : List UInt8) (rs : RS) (ws : WS) (hs : s.length ≤ 100000) (h : OneInv s rs ws) : OneInv s (rnum rs).2 (wnum ws (rnum rs).1) := by
  obtain ⟨n, r, b, hu⟩ : ∃ n r b, upto rs 4611686018427387903 = (n, ⟨r, b⟩) := ⟨_, _, _, rfl⟩
  refine ⟨Nat.le_trans (upto_len _ _) h.1, ?_⟩
  unfold rnum
  rw [hu]
  cases b with
  | true => exact .inl rfl
  | false =>
    obtain ⟨h1, h2, h3, h4, h5⟩ := upto_was _ _ _ _ hu
    rcases h.2 with h6 | ⟨h6, h7⟩
    · rw [h6] at h1; cases h1
    · right
      rw [h2] at h7
      obtain ⟨wb, wf⟩ := ws
      simp only at h6 h7 ⊢
      subst h6
      have : wb.length + (numB n.toNat).length ≤ 100000 := by rw [← h7] at hs; simp at hs; omega
      simp only [wnum, wput]
      rw [if_neg (by omega), if_neg (by simp), if_neg (by omega)]
      exact ⟨rfl, by simpa using h7⟩

theorem one_text (s : List UInt8) (rs : RS) (ws : WS) (hs : s.length ≤ 100000) (h : OneInv s rs ws) : OneInv s (rtext rs 2097152).2 (wtext ws (rtext rs 2097152).1) := by
  obtain ⟨t, r, b, hu⟩ : ∃ t r b, rtext rs 2097152 = (t, ⟨r, b⟩) := ⟨_, _, _, rfl⟩
  refine ⟨Nat.le_trans (rtext_len _ _).2 h.1, ?_⟩
  rw [hu]
  cases b with
  | true => exact .inl rfl
  | false =>
    obtain ⟨h1, h2⟩ := text_was _ _ _ _ hu
    rcases h.2 with h6 | ⟨h6, h7⟩
    · rw [h6] at h1; cases h1
    · right
      rw [h2] at h7
      obtain ⟨wb, wf⟩ := ws
      simp only at h6 h7 ⊢
      subst h6
      have : wb.length + (numB t.length ++ t).length ≤ 100000 := by rw [← h7] at hs; simp at hs ⊢; omega
      simp only [wtext, wput]
      rw [if_neg (by simp), if_neg (by omega)]
      exact ⟨rfl, by simpa using h7⟩

theorem one_end (s : List UInt8) (rs : RS) (ws : WS) (h : OneInv s rs ws) (he : rend rs = 0) : wbytes ws = (s, 0) := by
  unfold rend at he
  split at he
  · simp at he
  · rename_i hc
    obtain ⟨_, h2⟩ := h
    rcases h2 with h3 | ⟨h3, h4⟩
    · exact absurd (.inl h3) hc
    · have : rs.s = [] := List.eq_nil_of_length_eq_zero (by omega)
      rw [this] at h4
      simp at h4
      simp [wbytes, h3, h4]
end Go.Proofs.Ytjfaplmojpldhaa
