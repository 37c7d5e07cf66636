/-
  Requests as plain Lean: what is written is read back, and what was read was written. No condition.
-/
import Derived.Test.YtjfaplmojpldhaaReqPlain3
namespace Go.Proofs.Ytjfaplmojpldhaa
open Go.RowKit
set_option linter.unusedSimpArgs false
set_option linter.unusedVariables false

theorem okNum_toNat {n : Int} (h : okNum n = true) : ((n.toNat : Nat) : Int) = n := Int.toNat_of_nonneg (okNum_iff.1 h).1
theorem uptoQ_w {st : RS} {m : Int} {r : List UInt8} (h : (upto st m).2 = ⟨r, false⟩) : st = ⟨numB (upto st m).1.toNat ++ r, false⟩ ∧ okNum (upto st m).1 = true ∧ (upto st m).1 ≤ m := by
  obtain ⟨h1, h2, h3, h4, h5⟩ := upto_was st m (upto st m).1 r (by rw [← h])
  refine ⟨?_, okNum_iff.2 ⟨h3, h4⟩, h5⟩
  cases st
  simp only at h1 h2
  rw [← h2, h1]
theorem numQ_w {st : RS} {r : List UInt8} (h : (rnum st).2 = ⟨r, false⟩) : st = ⟨numB (rnum st).1.toNat ++ r, false⟩ ∧ okNum (rnum st).1 = true := ⟨(uptoQ_w h).1, (uptoQ_w h).2.1⟩
theorem textQ_w {st : RS} {m : Int} {r : List UInt8} (h : (rtext st m).2 = ⟨r, false⟩) : st = ⟨numB (rtext st m).1.length ++ ((rtext st m).1 ++ r), false⟩ := by
  obtain ⟨h1, h2⟩ := text_was st m (rtext st m).1 r (by rw [← h])
  cases st
  simp only at h1 h2
  rw [← List.append_assoc, ← h2, h1]
theorem flagQ_w {st : RS} {r : List UInt8} (h : (rflag st).2 = ⟨r, false⟩) : st = ⟨numB (if (rflag st).1 then 1 else 0) ++ r, false⟩ := by
  obtain ⟨h1, h2, h3⟩ := uptoQ_w (st := st) (m := 1) h
  have h0 := (okNum_iff.1 h2).1
  have : (upto st 1).1 = 0 ∨ (upto st 1).1 = 1 := by omega
  have e : (rflag st).1 = ((upto st 1).1 == 1) := rfl
  rw [e]
  rcases this with q | q <;> rw [q] at h1 ⊢ <;> exact h1
theorem uptoQ_back (n : Int) (r : List UInt8) (m : Int) (h : okNum n = true) (hm : n ≤ m) : upto ⟨numB n.toNat ++ r, false⟩ m = (n, ⟨r, false⟩) := by
  have h' := okNum_iff.1 h
  rw [upto_back _ _ _ (by omega) (by omega), okNum_toNat h]
theorem numQ_back (n : Int) (r : List UInt8) (h : okNum n = true) : rnum ⟨numB n.toNat ++ r, false⟩ = (n, ⟨r, false⟩) := uptoQ_back n r _ h (okNum_iff.1 h).2
theorem textQ_back (t r : List UInt8) (m : Int) (h : t.length ≤ 8192) (hm : 8192 ≤ m) : rtext ⟨numB t.length ++ (t ++ r), false⟩ m = (t, ⟨r, false⟩) := by
  rw [← List.append_assoc]
  exact text_back t r m (by omega) (by omega)
theorem okLen {n : Nat} (h : n ≤ 1048576) : okNum (n : Int) = true := okNum_iff.2 ⟨by omega, by omega⟩

theorem act_was {st : RS} {r : List UInt8} (h : (actR 8192 st).2 = ⟨r, false⟩) : st = ⟨itsB (daIts (actR 8192 st).1) ++ r, false⟩ ∧ DaOk (actR 8192 st).1 := by
  obtain ⟨k, hk⟩ : ∃ k, k = (upto st 3).1 := ⟨_, rfl⟩
  obtain ⟨s, hs⟩ : ∃ s, s = (upto st 3).2 := ⟨_, rfl⟩
  have head : ∀ q, s = ⟨q, false⟩ → st = ⟨numB k.toNat ++ q, false⟩ := fun q hq => by
    have := (uptoQ_w (st := st) (m := 3) (r := q) (by rw [← hs, hq])).1
    rwa [← hk] at this
  simp only [actR, ← hk, ← hs] at h ⊢
  clear hk hs
  by_cases h1 : k = 1
  · subst h1
    simp only [if_true] at h ⊢
    obtain ⟨e1, o1⟩ := numQ_w h
    obtain ⟨e2, o2⟩ := numQ_w e1
    have e3 := textQ_w e2
    have e4 := textQ_w e3
    refine ⟨?_, ⟨rfl, by simp [actL], o2, o1⟩⟩
    rw [head _ e4]
    simp only [daIts, if_true, itsB_cons, itsB_nil, nI_B, tI_B, List.append_assoc, List.nil_append]
  · by_cases h2 : k = 2
    · subst h2
      simp only [Int.reduceEq, if_true, if_false] at h ⊢
      have e3 := textQ_w h
      have e4 := textQ_w e3
      refine ⟨?_, ⟨rfl, by simp [actL], rfl, rfl⟩⟩
      rw [head _ e4]
      simp only [daIts, Int.reduceEq, if_true, if_false, itsB_cons, itsB_nil, nI_B, tI_B, List.append_assoc, List.nil_append]
    · by_cases h3 : k = 3
      · subst h3
        simp only [Int.reduceEq, if_true, if_false] at h ⊢
        have e3 := textQ_w h
        have e4 := textQ_w e3
        refine ⟨?_, ⟨rfl, by simp [actL], rfl, rfl⟩⟩
        rw [head _ e4]
        simp only [daIts, Int.reduceEq, if_true, if_false, itsB_cons, itsB_nil, nI_B, tI_B, List.append_assoc, List.nil_append]
      · simp only [h1, h2, h3, if_false, rfail] at h
        simp at h
theorem act_back (d : Da) (r : List UInt8) (m : Int) (h : DaOk d) (hl : (itsB (daIts d)).length ≤ 8192) (hm : 8192 ≤ m) : actR m ⟨itsB (daIts d) ++ r, false⟩ = (d, ⟨r, false⟩) := by
  obtain ⟨k, fr, to_, key, val, rev, most⟩ := d
  obtain ⟨hk, ho, h1, h2⟩ := h
  simp only [badA, Bool.not_eq_false', Bool.or_eq_true, decide_eq_true_eq] at hk
  simp only at h1 h2
  rcases hk with (rfl | rfl) | rfl
  · simp [actL] at ho
    obtain ⟨rfl, rfl⟩ := ho
    simp only [daIts, if_true, itsB_cons, itsB_nil, nI_B, tI_B, List.length_append] at hl
    simp only [daIts, if_true, itsB_cons, itsB_nil, nI_B, tI_B, List.append_assoc, List.nil_append]
    unfold actR
    rw [uptoQ_back 1 _ 3 rfl (by omega)]
    simp only [if_true]
    rw [textQ_back _ _ _ (by omega) hm]
    simp only
    rw [textQ_back _ _ _ (by omega) hm]
    simp only
    rw [numQ_back _ _ h1]
    simp only
    rw [numQ_back _ _ h2]
  · simp [actL] at ho
    obtain ⟨rfl, rfl, rfl, rfl⟩ := ho
    simp only [daIts, Int.reduceEq, if_true, if_false, itsB_cons, itsB_nil, nI_B, tI_B, List.length_append] at hl
    simp only [daIts, Int.reduceEq, if_true, if_false, itsB_cons, itsB_nil, nI_B, tI_B, List.append_assoc, List.nil_append]
    unfold actR
    rw [uptoQ_back 2 _ 3 rfl (by omega)]
    simp only [Int.reduceEq, if_true, if_false]
    rw [textQ_back _ _ _ (by omega) hm]
    simp only
    rw [textQ_back _ _ _ (by omega) hm]
  · simp [actL] at ho
    obtain ⟨rfl, rfl, rfl, rfl⟩ := ho
    simp only [daIts, Int.reduceEq, if_true, if_false, itsB_cons, itsB_nil, nI_B, tI_B, List.length_append] at hl
    simp only [daIts, Int.reduceEq, if_true, if_false, itsB_cons, itsB_nil, nI_B, tI_B, List.append_assoc, List.nil_append]
    unfold actR
    rw [uptoQ_back 3 _ 3 rfl (by omega)]
    simp only [Int.reduceEq, if_true, if_false]
    rw [textQ_back _ _ _ (by omega) hm]
    simp only
    rw [textQ_back _ _ _ (by omega) hm]
theorem acts_was (n : Nat) (l : List Da) (st : RS) (r : List UInt8) (h : (actsR n l st).2 = ⟨r, false⟩) : ∃ m : List Da, (actsR n l st).1 = l ++ m ∧ m.length = n ∧ st = ⟨itsB (m.flatMap daIts) ++ r, false⟩ ∧ ∀ d ∈ m, DaOk d := by
  induction n generalizing l st with
  | zero => exact ⟨[], by simp [actsR], rfl, by simpa [actsR, itsB_nil] using h, by simp⟩
  | succ n ih =>
    unfold actsR at h ⊢
    split at h
    · rename_i hc
      simp only at h
      exact absurd hc (by rw [h]; rintro ⟨q1, q2⟩; simp at q1; simp [rend, q1] at q2)
    · rename_i hc
      rw [if_neg hc]
      obtain ⟨m, e1, e2, e3, e4⟩ := ih _ _ h
      obtain ⟨g1, g2⟩ := act_was e3
      refine ⟨(actR 8192 st).1 :: m, by rw [e1]; simp, by simp [e2], ?_, by simpa using ⟨g2, e4⟩⟩
      rw [List.flatMap_cons, itsB_app, List.append_assoc]
      exact g1
theorem acts_back (m : List Da) (l : List Da) (r : List UInt8) (h : ∀ d ∈ m, DaOk d) (hl : (itsB (m.flatMap daIts)).length ≤ 8192) : actsR m.length l ⟨itsB (m.flatMap daIts) ++ r, false⟩ = (l ++ m, ⟨r, false⟩) := by
  induction m generalizing l with
  | nil => simp [actsR, itsB_nil]
  | cons d m ih =>
    rw [List.flatMap_cons, itsB_app, List.length_append] at hl
    rw [List.flatMap_cons, itsB_app, List.append_assoc, List.length_cons]
    unfold actsR
    rw [act_back d _ 8192 (h d (by simp)) (by omega) (by omega)]
    rw [if_neg (by rintro ⟨q1, q2⟩; simp at q1; simp [rend, q1] at q2), ih _ (fun x hx => h x (by simp [hx])) (by omega)]
    simp
theorem rdActs_was {st : RS} {r : List UInt8} (h : (rdActs st).2 = ⟨r, false⟩) : st = ⟨itsB (dasIts (rdActs st).1) ++ r, false⟩ ∧ (∀ d ∈ (rdActs st).1, DaOk d) ∧ (rdActs st).1.length ≤ 8192 := by
  unfold rdActs at h ⊢
  obtain ⟨m, e1, e2, e3, e4⟩ := acts_was _ _ _ _ h
  obtain ⟨g1, g2, g3⟩ := uptoQ_w e3
  have g0 := okNum_iff.1 g2
  simp only [List.nil_append] at e1
  rw [e1]
  refine ⟨?_, e4, by omega⟩
  rw [dasIts, itsB_cons, nI_B, e2, Int.toNat_natCast, List.append_assoc]
  exact g1
theorem rdActs_back (m : List Da) (r : List UInt8) (h : ∀ d ∈ m, DaOk d) (hl : (itsB (dasIts m)).length ≤ 8192) (hm : m.length ≤ 8192) : rdActs ⟨itsB (dasIts m) ++ r, false⟩ = (m, ⟨r, false⟩) := by
  rw [dasIts, itsB_cons, List.length_append] at hl
  rw [dasIts, itsB_cons, nI_B, List.append_assoc]
  unfold rdActs
  rw [uptoQ_back _ _ _ (okLen (by omega)) (by omega)]
  simp only [Int.toNat_natCast]
  rw [acts_back m [] r h (by omega)]
  simp
theorem numB_ne (n : Nat) (r : List UInt8) : numB n ++ r ≠ [] := by simp [numB]
theorem cmp_was {st : RS} {r : List UInt8} (h : (cmpR 8192 st).2 = ⟨r, false⟩) : st = ⟨itsB (cpIts (cmpR 8192 st).1) ++ r, false⟩ ∧ CpOk (cmpR 8192 st).1 := by
  unfold cmpR at h ⊢
  simp only at h ⊢
  have e1 := textQ_w h
  obtain ⟨e2, o2⟩ := numQ_w e1
  obtain ⟨e3, o3⟩ := numQ_w e2
  have e4 := textQ_w e3
  refine ⟨?_, ⟨o3, o2⟩⟩
  simp only [cpIts, itsB_cons, itsB_nil, nI_B, tI_B, List.append_assoc, List.nil_append]
  exact e4
theorem cmp_back (c : Cp) (r : List UInt8) (m : Int) (h : CpOk c) (hl : (itsB (cpIts c)).length ≤ 8192) (hm : 8192 ≤ m) : cmpR m ⟨itsB (cpIts c) ++ r, false⟩ = (c, ⟨r, false⟩) := by
  simp only [cpIts, itsB_cons, itsB_nil, nI_B, tI_B, List.length_append] at hl
  simp only [cpIts, itsB_cons, itsB_nil, nI_B, tI_B, List.append_assoc, List.nil_append]
  unfold cmpR
  rw [textQ_back _ _ _ (by omega) hm]
  simp only
  rw [numQ_back _ _ h.what]
  simp only
  rw [numQ_back _ _ h.rev]
  simp only
  rw [textQ_back _ _ _ (by omega) hm]
theorem cmps_was (n : Nat) (l : List Cp) (st : RS) (r : List UInt8) (hr : r ≠ []) (h : (cmpsR n l st).2 = ⟨r, false⟩) : ∃ m : List Cp, (cmpsR n l st).1 = l ++ m ∧ m.length = n ∧ st = ⟨itsB (m.flatMap cpIts) ++ r, false⟩ ∧ ∀ d ∈ m, CpOk d := by
  induction n generalizing l st with
  | zero => exact ⟨[], by simp [cmpsR], rfl, by simpa [cmpsR, itsB_nil] using h, by simp⟩
  | succ n ih =>
    unfold cmpsR at h ⊢
    split at h
    · rename_i hc
      simp only at h
      rw [h] at hc
      simp at hc
      exact absurd hc hr
    · rename_i hc
      rw [if_neg hc]
      obtain ⟨m, e1, e2, e3, e4⟩ := ih _ _ h
      obtain ⟨g1, g2⟩ := cmp_was e3
      refine ⟨(cmpR 8192 st).1 :: m, by rw [e1]; simp, by simp [e2], ?_, by simpa using ⟨g2, e4⟩⟩
      rw [List.flatMap_cons, itsB_app, List.append_assoc]
      exact g1
theorem cmps_back (m : List Cp) (l : List Cp) (r : List UInt8) (hr : r ≠ []) (h : ∀ d ∈ m, CpOk d) (hl : (itsB (m.flatMap cpIts)).length ≤ 8192) : cmpsR m.length l ⟨itsB (m.flatMap cpIts) ++ r, false⟩ = (l ++ m, ⟨r, false⟩) := by
  induction m generalizing l with
  | nil => simp [cmpsR, itsB_nil]
  | cons d m ih =>
    rw [List.flatMap_cons, itsB_app, List.length_append] at hl
    rw [List.flatMap_cons, itsB_app, List.append_assoc, List.length_cons]
    unfold cmpsR
    rw [cmp_back d _ 8192 (h d (by simp)) (by omega) (by omega)]
    rw [if_neg (by simp [hr]), ih _ (fun x hx => h x (by simp [hx])) (by omega)]
    simp
theorem rdCmps_was {st : RS} {r : List UInt8} (hr : r ≠ []) (h : (rdCmps st).2 = ⟨r, false⟩) : st = ⟨itsB (cpsIts (rdCmps st).1) ++ r, false⟩ ∧ (∀ d ∈ (rdCmps st).1, CpOk d) ∧ (rdCmps st).1.length ≤ 8192 := by
  unfold rdCmps at h ⊢
  obtain ⟨m, e1, e2, e3, e4⟩ := cmps_was _ _ _ _ hr h
  obtain ⟨g1, g2, g3⟩ := uptoQ_w e3
  have g0 := okNum_iff.1 g2
  simp only [List.nil_append] at e1
  rw [e1]
  refine ⟨?_, e4, by omega⟩
  rw [cpsIts, itsB_cons, nI_B, e2, Int.toNat_natCast, List.append_assoc]
  exact g1
theorem rdCmps_back (m : List Cp) (r : List UInt8) (hr : r ≠ []) (h : ∀ d ∈ m, CpOk d) (hl : (itsB (cpsIts m)).length ≤ 8192) (hm : m.length ≤ 8192) : rdCmps ⟨itsB (cpsIts m) ++ r, false⟩ = (m, ⟨r, false⟩) := by
  rw [cpsIts, itsB_cons, List.length_append] at hl
  rw [cpsIts, itsB_cons, nI_B, List.append_assoc]
  unfold rdCmps
  rw [uptoQ_back _ _ _ (okLen (by omega)) (by omega)]
  simp only [Int.toNat_natCast]
  rw [cmps_back m [] r hr h (by omega)]
  simp
theorem dasIts_ne (l : List Da) (r : List UInt8) : itsB (dasIts l) ++ r ≠ [] := by
  rw [dasIts, itsB_cons, nI_B, List.append_assoc]
  exact numB_ne _ _
end Go.Proofs.Ytjfaplmojpldhaa
