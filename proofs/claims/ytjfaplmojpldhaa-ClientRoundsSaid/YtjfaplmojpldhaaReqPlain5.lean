/-
  Requests as plain Lean: a right one's bytes are read back; what was read to its end is a right one's bytes. No condition.
-/
import Derived.Test.YtjfaplmojpldhaaReqPlain4
namespace Go.Proofs.Ytjfaplmojpldhaa
open Go.RowKit
set_option linter.unusedSimpArgs false
set_option linter.unusedVariables false
set_option maxRecDepth 10000

theorem das_len (l : List Da) : l.length ≤ (itsB (l.flatMap daIts)).length := by
  induction l with
  | nil => simp
  | cons d l ih =>
    have : 1 ≤ (itsB (daIts d)).length := by
      unfold daIts
      repeat' split
      all_goals simp [itsB_cons, nI_B, numB]
    rw [List.flatMap_cons, itsB_app, List.length_append, List.length_cons]
    omega
theorem cps_len (l : List Cp) : l.length ≤ (itsB (l.flatMap cpIts)).length := by
  induction l with
  | nil => simp
  | cons d l ih =>
    have : 1 ≤ (itsB (cpIts d)).length := by
      unfold cpIts
      simp [itsB_cons, tI_B, numB]
    rw [List.flatMap_cons, itsB_app, List.length_append, List.length_cons]
    omega
theorem bad_of {y : Cm} (h : badC y = false) : (∀ d ∈ y.thens, badA d = false) ∧ (∀ d ∈ y.elses, badA d = false) := by
  simp only [badC, Bool.or_eq_false_iff, List.any_eq_false, Bool.not_eq_true] at h
  exact h
theorem right_of {y : Cm} (h : rightC y = true) : okIds y.client y.seq = true ∧ wrongC y = false ∧ badC y = false ∧ (reqB y).length ≤ 8192 := by
  simp only [rightC, Bool.and_eq_true, Bool.not_eq_true', decide_eq_true_eq, and_assoc] at h
  exact h
theorem isK_num {k : Int} (h : isK k = true) : okNum k = true ∧ k ≤ 14 := by
  simp only [isK, decide_eq_true_eq] at h
  exact ⟨okNum_iff.2 ⟨by omega, by omega⟩, h.2⟩
theorem ids_num {c s : Int} (h : okIds c s = true) : okNum c = true ∧ okNum s = true := by
  have := okIds_iff.1 h
  exact ⟨okNum_iff.2 ⟨by omega, by omega⟩, okNum_iff.2 ⟨by omega, by omega⟩⟩
theorem map_own {l : List Da} (h : l.map actL = l) : ∀ d ∈ l, actL d = d := by
  induction l with
  | nil => simp
  | cons d l ih =>
    simp only [List.map_cons, List.cons.injEq] at h
    intro x hx
    rcases List.mem_cons.1 hx with rfl | hx
    · exact h.1
    · exact ih h.2 x hx
theorem own_map {l : List Da} (h : ∀ d ∈ l, actL d = d) : l.map actL = l := by
  induction l with
  | nil => rfl
  | cons d l ih => rw [List.map_cons, h d (by simp), ih fun x hx => h x (by simp [hx])]
/-- A right request's bytes are read back, whatever stands behind. -/
theorem readC_back (y : Cm) (rest : List UInt8) (hk : isK y.kind = true) (hc : cleanC y = y) (hr : rightC y = true) : readC ⟨reqB y ++ rest, false⟩ = (y, ⟨rest, false⟩) := by
  obtain ⟨i1, i2, i3, i4⟩ := right_of hr
  obtain ⟨w1, w2, w3, w4, w5, w6⟩ := wrong_of i2
  obtain ⟨b1, b2⟩ := bad_of i3
  obtain ⟨n1, n2⟩ := isK_num hk
  obtain ⟨n3, n4⟩ := ids_num i1
  clear hr i2 i3 i1
  obtain ⟨client, seq, token, kind, name, other, word, salt, bytes, keys, gf, gt, gr, gw, rev, ifs, thens, elses⟩ := y
  simp only at hk w1 w2 w3 w4 w5 w6 b1 b2 n1 n2 n3 n4
  have e1 := fun r => uptoQ_back kind r 14 n1 n2
  have e2 := fun r => numQ_back client r n3
  have e3 := fun r => numQ_back seq r n4
  have e4 := fun r => numQ_back bytes r w1
  have e5 := fun r => numQ_back keys r w2
  have e6 := fun r => numQ_back rev r w3
  have e7 := fun b r => flag_back b r
  rw [reqB, reqIts] at i4 ⊢
  simp only [itsB_cons, nI_B, tI_B, List.append_assoc] at i4 ⊢
  have ht : token.length ≤ 8192 := by simp only [List.length_append] at i4; omega
  have e8 := fun r => textQ_back token r 8192 ht (by omega)
  have go : ∀ q : List UInt8, readC ⟨numB kind.toNat ++ (numB client.toNat ++ (numB seq.toNat ++ (numB token.length ++ (token ++ q)))), false⟩ = rqK client seq token kind ⟨q, false⟩ := by
    intro q
    unfold readC
    simp only [e1, e2, e3, e8]
  rw [go]
  by_cases h2 : kind = 2
  · subst h2
    simp only [cleanC, hk, if_true, onlyC, hasN, hasO, hasW, hasS, hasQ, hasG, hasP, hasR, hasT] at hc
    simp at hc
    obtain ⟨rfl, rfl, rfl, rfl, rfl, rfl, rfl, rfl, rfl, rfl, rfl, ho1, ho2⟩ := hc
    have d1 : ∀ d ∈ thens, DaOk d := fun d hd => ⟨b1 d hd, map_own ho1 d hd, (w5 d hd).1, (w5 d hd).2⟩
    have d2 : ∀ d ∈ elses, DaOk d := fun d hd => ⟨b2 d hd, map_own ho2 d hd, (w6 d hd).1, (w6 d hd).2⟩
    simp only [tailIts, Int.reduceEq, if_true, if_false, itsB_app, List.append_assoc] at i4 ⊢
    have l1 := das_len thens
    have l2 := das_len elses
    have l3 := cps_len ifs
    have s1 : (itsB (dasIts thens)).length = (numB thens.length).length + (itsB (thens.flatMap daIts)).length := by rw [dasIts, itsB_cons, nI_B, Int.toNat_natCast, List.length_append]
    have s2 : (itsB (dasIts elses)).length = (numB elses.length).length + (itsB (elses.flatMap daIts)).length := by rw [dasIts, itsB_cons, nI_B, Int.toNat_natCast, List.length_append]
    have s3 : (itsB (cpsIts ifs)).length = (numB ifs.length).length + (itsB (ifs.flatMap cpIts)).length := by rw [cpsIts, itsB_cons, nI_B, Int.toNat_natCast, List.length_append]
    simp only [List.length_append] at i4
    have g1 := fun r hr => rdCmps_back ifs r hr w4 (by omega) (by omega)
    have g2 := fun r => rdActs_back thens r d1 (by omega) (by omega)
    have g3 := fun r => rdActs_back elses r d2 (by omega) (by omega)
    unfold rqK
    simp only [Int.reduceEq, if_true, if_false, g1 _ (dasIts_ne _ _), g2, g3]
  · rcases isK_cases hk with rfl | rfl | rfl | h
    · simp only [cleanC, hk, if_true, onlyC, hasN, hasO, hasW, hasS, hasQ, hasG, hasP, hasR, hasT] at hc
      simp at hc
      obtain ⟨rfl, rfl, rfl, rfl, rfl, rfl, rfl, rfl, rfl, rfl, rfl, rfl⟩ := hc
      simp only [tailIts, Int.reduceEq, if_true, if_false, itsB_cons, itsB_nil, tI_B, nI_B, List.append_assoc, List.nil_append] at i4 ⊢
      simp only [List.length_append] at i4
      have g1 := fun r => textQ_back name r 8192 (by omega) (by omega)
      have g2 := fun r => textQ_back word r 8192 (by omega) (by omega)
      unfold rqK
      simp only [Int.reduceEq, if_true, if_false, g1, g2]
    · exact absurd rfl h2
    · simp only [cleanC, hk, if_true, onlyC, hasN, hasO, hasW, hasS, hasQ, hasG, hasP, hasR, hasT] at hc
      simp at hc
      obtain ⟨rfl, rfl, rfl, rfl, rfl, rfl, rfl, rfl, rfl, rfl, rfl, rfl, rfl⟩ := hc
      simp only [tailIts, Int.reduceEq, if_true, if_false, itsB_cons, itsB_nil, tI_B, nI_B, List.append_assoc, List.nil_append] at i4 ⊢
      unfold rqK
      simp only [Int.reduceEq, if_true, if_false, e6]
    · rcases adm_cases h with rfl | rfl | rfl | rfl | rfl | rfl | rfl | rfl | rfl | rfl | rfl
      all_goals
        simp only [cleanC, hk, if_true, onlyC, hasN, hasO, hasW, hasS, hasQ, hasG, hasP, hasR, hasT] at hc
        simp at hc
        simp only [tailIts, Int.reduceEq, if_true, if_false, or_true, true_or, or_false, false_or, itsB_cons, itsB_nil, tI_B, nI_B, fI_B, List.append_assoc, List.nil_append] at i4 ⊢
        simp only [List.length_append] at i4
        have g1 : name.length ≤ 8192 := by omega
        have g1' := fun r => textQ_back name r 8192 g1 (by omega)
        first
          | (obtain ⟨rfl, rfl, rfl, rfl, rfl, rfl, rfl, rfl, rfl, rfl, rfl⟩ := hc; skip)
          | (obtain ⟨rfl, rfl, rfl, rfl, rfl, rfl, rfl, rfl, rfl, rfl, rfl, rfl⟩ := hc; skip)
          | (obtain ⟨rfl, rfl, rfl, rfl, rfl, rfl, rfl, rfl, rfl, rfl, rfl, rfl, rfl⟩ := hc; skip)
          | (obtain ⟨rfl, rfl, rfl, rfl, rfl, rfl, rfl, rfl, rfl, rfl⟩ := hc; skip)
          | (obtain ⟨rfl, rfl, rfl, rfl, rfl, rfl, rfl, rfl, rfl⟩ := hc; skip)
        unfold rqK
        simp only [Int.reduceEq, if_true, if_false, or_true, true_or, or_false, false_or, g1', e4, e5]
        try (have g2 := fun r => textQ_back other r 8192 (by omega) (by omega); simp only [g2])
        try (have g3 := fun r => textQ_back word r 8192 (by omega) (by omega); simp only [g3])
        try (have g4 := fun r => textQ_back salt r 8192 (by omega) (by omega); simp only [g4])
        try (have g5 := fun r => textQ_back gf r 8192 (by omega) (by omega); simp only [g5])
        try (have g6 := fun r => textQ_back gt r 8192 (by omega) (by omega); simp only [g6])
        try simp only [e7]
theorem acts_its_ok {l : List Da} (h : ∀ d ∈ l, DaOk d) (hl : l.length ≤ 1048576) : ∀ x ∈ dasIts l, x.k = 0 → okNum x.n = true := by
  intro x hx hk
  simp only [dasIts, List.mem_cons, List.mem_flatMap] at hx
  rcases hx with rfl | ⟨d, hd, hx⟩
  · exact okLen hl
  · obtain ⟨h1, h2, h3, h4⟩ := h d hd
    have h5 : okNum d.kind = true := by
      simp only [badA, Bool.not_eq_false', Bool.or_eq_true, decide_eq_true_eq] at h1
      refine okNum_iff.2 ⟨by omega, by omega⟩
    unfold daIts at hx
    repeat' split at hx
    all_goals
      simp only [List.mem_cons, List.not_mem_nil, or_false] at hx
      rcases hx with rfl | rfl | rfl | rfl | rfl <;> first | exact h5 | exact h3 | exact h4 | (simp [tI] at hk)
theorem cps_its_ok {l : List Cp} (h : ∀ d ∈ l, CpOk d) (hl : l.length ≤ 1048576) : ∀ x ∈ cpsIts l, x.k = 0 → okNum x.n = true := by
  intro x hx hk
  simp only [cpsIts, cpIts, List.mem_cons, List.mem_flatMap, List.not_mem_nil, or_false] at hx
  rcases hx with rfl | ⟨d, hd, rfl | rfl | rfl | rfl⟩
  · exact okLen hl
  · simp [tI] at hk
  · exact (h d hd).what
  · exact (h d hd).rev
  · simp [tI] at hk
theorem written_ok (l : List It) (out : List UInt8) (h : ∀ x ∈ l, x.k = 0 → okNum x.n = true) (hl : out.length + (itsB l).length ≤ 2097152) : written out l = (out ++ itsB l, 0) := by
  induction l generalizing out with
  | nil => simp [written, itsB_nil]
  | cons x l ih =>
    rw [itsB_cons, List.length_append] at hl
    rw [written, if_neg, if_neg (by omega), ih _ (fun y hy => h y (by simp [hy])) (by rw [List.length_append]; omega), itsB_cons, List.append_assoc]
    rintro ⟨q1, q2⟩
    have := okNum_iff.1 (h x (by simp) q1)
    omega
theorem numI_ok {n : Int} (h : okNum n = true) : ∀ x ∈ [nI n], x.k = 0 → okNum x.n = true := by
  intro x hx _
  simp at hx
  subst hx
  exact h
theorem its_okQ (y : Cm) (hk : isK y.kind = true) (hc : cleanC y = y) (hi : okIds y.client y.seq = true) (hw : wrongC y = false) (hb : badC y = false) (hL : LenS y) : ∀ x ∈ reqIts y, x.k = 0 → okNum x.n = true := by
  obtain ⟨w1, w2, w3, w4, w5, w6⟩ := wrong_of hw
  obtain ⟨b1, b2⟩ := bad_of hb
  have o : (y.kind = 2 → (∀ d ∈ y.thens, DaOk d) ∧ (∀ d ∈ y.elses, DaOk d)) := by
    intro h2
    have q1 : (cleanC y).thens = y.thens := by rw [hc]
    have q2 : (cleanC y).elses = y.elses := by rw [hc]
    simp only [cleanC, hk, if_true, onlyC, hasT, h2, decide_true] at q1 q2
    exact ⟨fun d hd => ⟨b1 d hd, map_own q1 d hd, (w5 d hd).1, (w5 d hd).2⟩, fun d hd => ⟨b2 d hd, map_own q2 d hd, (w6 d hd).1, (w6 d hd).2⟩⟩
  intro x hx hx0
  simp only [reqIts, List.mem_cons] at hx
  rcases hx with rfl | rfl | rfl | rfl | hx
  · exact (isK_num hk).1
  · exact (ids_num hi).1
  · exact (ids_num hi).2
  · simp [tI] at hx0
  · unfold tailIts at hx
    split at hx
    · simp only [List.mem_cons, List.not_mem_nil, or_false] at hx
      rcases hx with rfl | rfl <;> simp [tI] at hx0
    · split at hx
      · rename_i h2
        simp only [List.mem_append] at hx
        rcases hx with hx | hx | hx
        · exact cps_its_ok w4 hL.i x hx hx0
        · exact acts_its_ok (o h2).1 hL.t x hx hx0
        · exact acts_its_ok (o h2).2 hL.e x hx hx0
      · repeat' split at hx
        all_goals
          simp only [List.mem_cons, List.not_mem_nil, or_false] at hx
          rcases hx with rfl | rfl | rfl | rfl | rfl <;> first | exact w1 | exact w2 | exact w3 | (simp [tI, fI] at hx0)
theorem lenS_of {y : Cm} (hk : isK y.kind = true) (hc : cleanC y = y) (hl : (reqB y).length ≤ 8192) : LenS y := by
  by_cases h2 : y.kind = 2
  · rw [reqB, reqIts] at hl
    simp only [tailIts, h2, Int.reduceEq, if_true, if_false, itsB_cons, itsB_app, List.length_append] at hl
    simp only [cpsIts, dasIts, itsB_cons, List.length_append] at hl
    have l1 := das_len y.thens
    have l2 := das_len y.elses
    have l3 := cps_len y.ifs
    exact ⟨by omega, by omega, by omega⟩
  · have q1 : (cleanC y).thens = y.thens := by rw [hc]
    have q2 : (cleanC y).elses = y.elses := by rw [hc]
    have q3 : (cleanC y).ifs = y.ifs := by rw [hc]
    simp only [cleanC, hk, if_true, onlyC, hasT, h2, decide_false, Bool.false_eq_true, if_false] at q1 q2 q3
    exact ⟨by rw [← q3]; simp, by rw [← q1]; simp, by rw [← q2]; simp⟩
/-- A right request's bytes. -/
theorem encC_right (y : Cm) (hk : isK y.kind = true) (hc : cleanC y = y) (hr : rightC y = true) : encC y = (reqB y, 0) := by
  obtain ⟨i1, i2, i3, i4⟩ := right_of hr
  have hw := written_ok (reqIts y) [] (its_okQ y hk hc i1 i2 i3 (lenS_of hk hc i4)) (by have : (reqB y).length = (itsB (reqIts y)).length := rfl; simp; omega)
  rw [encC_written, hw]
  have : ([] : List UInt8) ++ itsB (reqIts y) = reqB y := rfl
  simp only [this, i1, i2, i3, Bool.true_eq_false, Bool.false_eq_true, or_self, if_false, if_true]
  rw [if_neg (by omega)]
theorem encC_some (y : Cm) (bs : List UInt8) (h : encC y = (bs, 0)) : rightC y = true ∧ bs = reqB y := by
  rw [encC_written] at h
  split at h
  · simp at h
  · split at h
    · simp at h
    · split at h
      · split at h
        · simp at h
        · rename_i h1 h2 h3 h4
          obtain ⟨ws, hws⟩ : ∃ ws, written [] (reqIts y) = (ws, 0) := ⟨(written [] (reqIts y)).1, by rw [← h3]⟩
          have := (written_whole _ _ _ hws).1
          have e : ws = reqB y := by rw [this]; simp [reqB, itsB, List.flatMap]
          simp only [hws, Prod.mk.injEq, and_true] at h h4
          refine ⟨?_, by rw [← h, e]⟩
          rw [e] at h4
          simp only [not_or, Bool.not_eq_true] at h2
          simp only [rightC, h2.1, h2.2, show okIds y.client y.seq = true by simpa using h1, Bool.not_false, Bool.and_self, Bool.true_and, decide_eq_true_eq]
          omega
      · rename_i h3
        simp only [Prod.mk.injEq] at h
        exact absurd h.2 h3
theorem encC_err (y : Cm) (h : (encC y).2 ≠ 0) : (encC y).1 = [] := by
  rw [encC_written] at h ⊢
  repeat' split
  all_goals first | rfl | simp_all
end Go.Proofs.Ytjfaplmojpldhaa
