/-
  Requests as plain Lean: what was read to its end is a right one's bytes; Decode by that. No condition.
-/
import Derived.Test.YtjfaplmojpldhaaReqPlain5
import Derived.Test.YtjfaplmojpldhaaReqLP
namespace Go.Proofs.Ytjfaplmojpldhaa
open Go.RowKit
set_option linter.unusedSimpArgs false
set_option linter.unusedVariables false
set_option maxRecDepth 10000

set_option maxHeartbeats 4000000 in
/-- What was read to the end is a right request's bytes. -/
theorem readC_was (s rest : List UInt8) (y : Cm) (h : readC ⟨s, false⟩ = (y, ⟨rest, false⟩)) (hk : isK y.kind = true) : s = reqB y ++ rest ∧ cleanC y = y ∧ wrongC y = false ∧ badC y = false := by
  unfold readC at h
  obtain ⟨st0, hst0⟩ : ∃ st0 : RS, st0 = ⟨s, false⟩ := ⟨_, rfl⟩
  rw [← hst0] at h
  obtain ⟨k, hkk⟩ : ∃ k, k = (upto st0 14).1 := ⟨_, rfl⟩
  obtain ⟨c, hcc⟩ : ∃ c, c = (rnum (upto st0 14).2).1 := ⟨_, rfl⟩
  obtain ⟨q, hqq⟩ : ∃ q, q = (rnum (rnum (upto st0 14).2).2).1 := ⟨_, rfl⟩
  obtain ⟨t, htt⟩ : ∃ t, t = (rtext (rnum (rnum (upto st0 14).2).2).2 8192).1 := ⟨_, rfl⟩
  obtain ⟨sc, hsc⟩ : ∃ sc, sc = (rtext (rnum (rnum (upto st0 14).2).2).2 8192).2 := ⟨_, rfl⟩
  rw [← hkk, ← hcc, ← hqq, ← htt, ← hsc] at h
  have hkr : y.kind = k := by have := (rqK_kind c q t k sc).1; rw [h] at this; exact this
  -- the head, once the state behind it is known
  have head : ∀ u : List UInt8, sc = ⟨u, false⟩ → s = numB k.toNat ++ (numB c.toNat ++ (numB q.toNat ++ (numB t.length ++ (t ++ u)))) := by
    intro u hu
    rw [hsc] at hu
    have h1 := textQ_w hu
    obtain ⟨h2, _⟩ := numQ_w h1
    obtain ⟨h3, _⟩ := numQ_w h2
    obtain ⟨h4, _⟩ := uptoQ_w h3
    rw [hst0] at h4
    injection h4 with h4 _
    rw [← hst0] at h4
    rw [hkk, hcc, hqq, htt]
    exact h4
  rw [hkr] at hk
  clear hkk hcc hqq htt hsc hst0 hkr
  have z : okNum 0 = true := rfl
  by_cases h2 : k = 2
  · subst h2
    simp only [rqK, Int.reduceEq, if_true, if_false, Prod.mk.injEq] at h
    obtain ⟨rfl, h⟩ := h
    obtain ⟨a1, a2, a3⟩ := rdActs_was h
    obtain ⟨a4, a5, a6⟩ := rdActs_was a1
    obtain ⟨a7, a8, a9⟩ := rdCmps_was (dasIts_ne _ _) a4
    refine ⟨?_, ?_, ?_, ?_⟩
    · rw [head _ a7]
      simp only [reqB, reqIts, tailIts, Int.reduceEq, if_true, if_false, itsB_cons, itsB_app, tI_B, nI_B, List.append_assoc]
    · simp only [cleanC, hk, if_true, onlyC, hasN, hasO, hasW, hasS, hasQ, hasG, hasP, hasR, hasT]
      simp
      exact ⟨own_map fun d hd => (a5 d hd).own, own_map fun d hd => (a2 d hd).own⟩
    · exact wrong_to z z z a8 (fun d hd => ⟨(a5 d hd).rev, (a5 d hd).most⟩) (fun d hd => ⟨(a2 d hd).rev, (a2 d hd).most⟩)
    · simp only [badC, Bool.or_eq_false_iff, List.any_eq_false, Bool.not_eq_true]
      exact ⟨fun d hd => (a5 d hd).kind, fun d hd => (a2 d hd).kind⟩
  · rcases isK_cases hk with rfl | rfl | rfl | h'
    · simp only [rqK, Int.reduceEq, if_true, if_false, Prod.mk.injEq] at h
      obtain ⟨rfl, h⟩ := h
      have a1 := textQ_w h
      have a2 := textQ_w a1
      refine ⟨?_, ?_, ?_, ?_⟩
      · rw [head _ a2]
        simp only [reqB, reqIts, tailIts, Int.reduceEq, if_true, if_false, itsB_cons, itsB_nil, tI_B, nI_B, List.append_assoc, List.nil_append]
      · simp only [cleanC, hk, if_true, onlyC, hasN, hasO, hasW, hasS, hasQ, hasG, hasP, hasR, hasT]
        simp
      · exact wrong_to z z z (by simp) (by simp) (by simp)
      · rfl
    · exact absurd rfl h2
    · simp only [rqK, Int.reduceEq, if_true, if_false, Prod.mk.injEq] at h
      obtain ⟨rfl, h⟩ := h
      obtain ⟨a2, o2⟩ := numQ_w h
      refine ⟨?_, ?_, ?_, ?_⟩
      · rw [head _ a2]
        simp only [reqB, reqIts, tailIts, Int.reduceEq, if_true, if_false, itsB_cons, itsB_nil, tI_B, nI_B, List.append_assoc, List.nil_append]
      · simp only [cleanC, hk, if_true, onlyC, hasN, hasO, hasW, hasS, hasQ, hasG, hasP, hasR, hasT]
        simp
      · exact wrong_to z z o2 (by simp) (by simp) (by simp)
      · rfl
    · by_cases h4 : k = 4 ∨ k = 5
      · have n1 : ¬ k = 1 := by omega
        have n3 : ¬ k = 3 := by omega
        simp only [rqK, n1, h2, n3, h4, if_true, if_false, Prod.mk.injEq] at h
        obtain ⟨rfl, h⟩ := h
        obtain ⟨a1, o1⟩ := numQ_w h
        obtain ⟨a2, o2⟩ := numQ_w a1
        have a3 := textQ_w a2
        refine ⟨?_, ?_, wrong_to o2 o1 z (by simp) (by simp) (by simp), rfl⟩
        · rw [head _ a3]
          simp only [reqB, reqIts, tailIts, n1, h2, n3, h4, if_true, if_false, itsB_cons, itsB_nil, tI_B, nI_B, fI_B, List.append_assoc, List.nil_append]
        · rcases h4 with rfl | rfl
          all_goals
            simp only [cleanC, hk, if_true, onlyC, hasN, hasO, hasW, hasS, hasQ, hasG, hasP, hasR, hasT]
            simp
      · rcases adm_cases h' with rfl | rfl | rfl | rfl | rfl | rfl | rfl | rfl | rfl | rfl | rfl
        · simp at h4
        · simp at h4
        all_goals
          simp only [rqK, Int.reduceEq, if_true, if_false, or_true, true_or, or_false, false_or, Prod.mk.injEq] at h
          obtain ⟨rfl, h⟩ := h
          refine ⟨?_, ?_, wrong_to z z z (by simp) (by simp) (by simp), rfl⟩
          rotate_left
          · simp only [cleanC, hk, if_true, onlyC, hasN, hasO, hasW, hasS, hasQ, hasG, hasP, hasR, hasT]
            simp
          · simp only [reqB, reqIts, tailIts, Int.reduceEq, if_true, if_false, or_true, true_or, or_false, false_or, itsB_cons, itsB_nil, tI_B, nI_B, fI_B, List.append_assoc, List.nil_append]
            repeat (first | with_reducible replace h := textQ_w h | with_reducible replace h := flagQ_w h)
            exact head _ h
theorem decC_some {s : List UInt8} {y : Cm} (h : decC s = some y) : isK y.kind = true ∧ cleanC y = y ∧ rightC y = true ∧ s = reqB y := by
  unfold decC at h
  split at h
  · simp at h
  · split at h
    · rename_i h1 h2
      obtain ⟨k1, k2, k3⟩ := h2
      have hr : readC ⟨s, false⟩ = ((readC ⟨s, false⟩).1, ⟨[], false⟩) := by
        obtain ⟨⟨q, b⟩, hq⟩ : ∃ q, q = (readC ⟨s, false⟩).2 := ⟨_, rfl⟩
        rw [← hq] at k2
        unfold rend at k2
        simp only at k2
        split at k2
        · simp at k2
        · rename_i g
          simp at g
          obtain ⟨rfl, g2⟩ := g
          have : q = [] := by cases q; rfl; simp at g2
          subst this
          rw [hq]
      obtain ⟨e1, e2, e3, e4⟩ := readC_was _ _ _ hr k1
      rw [e2] at h
      simp only [Option.some.injEq] at h
      rw [h] at k1 e1 e2 e3 e4 k3
      rw [List.append_nil] at e1
      refine ⟨k1, e2, ?_, e1⟩
      rw [e1] at h1
      simp only [rightC, k3, e3, e4, Bool.not_false, Bool.and_self, Bool.true_and, decide_eq_true_eq]
      omega
    · simp at h
theorem decC_right {y : Cm} (hk : isK y.kind = true) (hc : cleanC y = y) (hr : rightC y = true) : decC (reqB y) = some y := by
  have h := readC_back y [] hk hc hr
  rw [List.append_nil] at h
  obtain ⟨i1, i2, i3, i4⟩ := right_of hr
  have := decC_of h (by omega) hk (by simp [rend]) i1
  rw [this, hc]
theorem decC_unlike {y z : Cm} {m : List UInt8} (hk : isK y.kind = true) (hc : cleanC y = y) (hr : rightC y = true) (h : decC (reqB y ++ m) = some z) : m = [] := by
  obtain ⟨g1, g2, g3, g4⟩ := decC_some h
  have e1 := readC_back y m hk hc hr
  have e2 := readC_back z [] g1 g2 g3
  rw [List.append_nil, ← g4, e1] at e2
  injection e2 with _ e2
  injection e2
theorem decC_more {y : Cm} {m : List UInt8} (hk : isK y.kind = true) (hc : cleanC y = y) (hr : rightC y = true) (hm : m ≠ []) : decC (reqB y ++ m) = none := by
  cases h : decC (reqB y ++ m) with
  | none => rfl
  | some z => exact absurd (decC_unlike hk hc hr h) hm
theorem decC_cut {y : Cm} {n : Nat} (hk : isK y.kind = true) (hc : cleanC y = y) (hr : rightC y = true) (hn : n < (reqB y).length) : decC ((reqB y).take n) = none := by
  cases h : decC ((reqB y).take n) with
  | none => rfl
  | some z =>
    obtain ⟨g1, g2, g3, g4⟩ := decC_some h
    have h3 := decC_right hk hc hr
    have e : reqB z ++ (reqB y).drop n = reqB y := by rw [← g4, List.take_append_drop]
    rw [← e] at h3
    have := decC_unlike g1 g2 g3 h3
    have h4 := congrArg List.length this
    simp at h4
    omega
/-- The document's bytes. -/
def badI (x : It) : Bool := decide (x.k = 0 ∧ (x.n < 0 ∨ 4611686018427387903 < x.n))
def refB (y : Cm) : List UInt8 × Int :=
  if okIds y.client y.seq = false then ([], 1)
  else if badC y = true then ([], 1)
  else if (reqIts y).any badI = true then ([], 1)
  else if (written [] (reqIts y)).2 = 0 then (if 8192 < (written [] (reqIts y)).1.length then ([], 2) else ((written [] (reqIts y)).1, 0))
  else ([], (written [] (reqIts y)).2)
theorem badI_no {x : It} (h : x.k = 0 → okNum x.n = true) : badI x = false := by
  simp only [badI, decide_eq_false_iff_not]
  rintro ⟨q1, q2⟩
  have := okNum_iff.1 (h q1)
  omega
theorem badI_num {n : Int} (h : badI (nI n) = false) : okNum n = true := by
  refine okNum_iff.2 ?_
  simp [badI, nI] at h
  omega
theorem act_rev {d : Da} (h : ¬ d.kind = 1) : (actL d).rev = 0 ∧ (actL d).most = 0 := by
  unfold actL
  rw [if_neg h]
  repeat' split
  all_goals exact ⟨rfl, rfl⟩
set_option maxHeartbeats 4000000 in
theorem refB_enc (y : Cm) (hk : isK y.kind = true) (hc : cleanC y = y) (hL : LenS y) : refB y = encC y := by
  rw [encC_written]
  unfold refB
  cases hi : okIds y.client y.seq with
  | false => rfl
  | true =>
    cases hb : badC y with
    | true => simp
    | false =>
      cases hw : wrongC y with
      | false =>
        have : (reqIts y).any badI = false := by
          simp only [List.any_eq_false, Bool.not_eq_true]
          exact fun x hx => badI_no (its_okQ y hk hc hi hw hb hL x hx)
        simp [this]
      | true =>
        have : (reqIts y).any badI = true := by
          cases ha : (reqIts y).any badI with
          | true => rfl
          | false =>
            exfalso
            simp only [List.any_eq_false, Bool.not_eq_true] at ha
            have z : okNum 0 = true := rfl
            have hw' : wrongC y = false := by
              obtain ⟨client, seq, token, kind, name, other, word, salt, bytes, keys, gf, gt, gr, gw, rev, ifs, thens, elses⟩ := y
              simp only at hk
              by_cases h2 : kind = 2
              · subst h2
                simp only [cleanC, hk, if_true, onlyC, hasN, hasO, hasW, hasS, hasQ, hasG, hasP, hasR, hasT] at hc
                simp at hc
                obtain ⟨rfl, rfl, rfl, rfl, rfl, rfl, rfl, rfl, rfl, rfl, rfl, ho1, ho2⟩ := hc
                have o1 := map_own ho1
                have o2 := map_own ho2
                simp only [reqIts, tailIts, Int.reduceEq, if_true, if_false] at ha
                have hact : ∀ d : Da, actL d = d → (∀ x ∈ daIts d, badI x = false) → okNum d.rev = true ∧ okNum d.most = true := by
                  intro d ho hx
                  by_cases hd : d.kind = 1
                  · simp only [daIts, hd, if_true] at hx
                    exact ⟨badI_num (hx _ (by simp)), badI_num (hx _ (by simp))⟩
                  · have := act_rev hd
                    rw [ho] at this
                    rw [this.1, this.2]
                    exact ⟨z, z⟩
                refine wrong_to z z z (fun c hc => ⟨badI_num (ha _ ?_), badI_num (ha _ ?_)⟩) (fun d hd => hact d (o1 d hd) fun x hx => ha _ ?_) (fun d hd => hact d (o2 d hd) fun x hx => ha _ ?_)
                · simp only [List.mem_cons, List.mem_append, cpsIts, List.mem_flatMap]
                  exact Or.inr (Or.inr (Or.inr (Or.inr (Or.inl (Or.inr ⟨c, hc, by simp [cpIts]⟩)))))
                · simp only [List.mem_cons, List.mem_append, cpsIts, List.mem_flatMap]
                  exact Or.inr (Or.inr (Or.inr (Or.inr (Or.inl (Or.inr ⟨c, hc, by simp [cpIts]⟩)))))
                · simp only [List.mem_cons, List.mem_append, dasIts, List.mem_flatMap]
                  exact Or.inr (Or.inr (Or.inr (Or.inr (Or.inr (Or.inl (Or.inr ⟨d, hd, hx⟩))))))
                · simp only [List.mem_cons, List.mem_append, dasIts, List.mem_flatMap]
                  exact Or.inr (Or.inr (Or.inr (Or.inr (Or.inr (Or.inr (Or.inr ⟨d, hd, hx⟩))))))
              · simp only [cleanC, hk, if_true, onlyC, hasT, h2, decide_false, Bool.false_eq_true, if_false, Cm.mk.injEq, true_and] at hc
                simp only [reqIts, tailIts, h2, if_false] at ha
                obtain ⟨_, _, _, _, c5, c6, _, _, _, _, c11, rfl, rfl, rfl⟩ := hc
                refine wrong_to ?_ ?_ ?_ (by simp) (by simp) (by simp)
                · by_cases q : kind = 4 ∨ kind = 5
                  · rw [if_neg (by omega), if_neg (by omega), if_pos q] at ha
                    exact badI_num (ha _ (by simp))
                  · simp only [hasQ, Bool.or_eq_true, decide_eq_true_eq, q, if_false] at c5
                    simp only [← c5, z]
                · by_cases q : kind = 4 ∨ kind = 5
                  · rw [if_neg (by omega), if_neg (by omega), if_pos q] at ha
                    exact badI_num (ha _ (by simp))
                  · simp only [hasQ, Bool.or_eq_true, decide_eq_true_eq, q, if_false] at c6
                    simp only [← c6, z]
                · by_cases q : kind = 3
                  · rw [if_neg (by omega), if_pos q] at ha
                    exact badI_num (ha _ (by simp))
                  · simp only [hasR, decide_eq_true_eq, q, if_false] at c11
                    simp only [← c11, z]
            rw [hw'] at hw
            simp at hw
        simp [this]
end Go.Proofs.Ytjfaplmojpldhaa
