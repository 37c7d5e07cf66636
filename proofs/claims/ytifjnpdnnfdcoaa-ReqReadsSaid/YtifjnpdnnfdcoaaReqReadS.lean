/-
  The reference's Read as plain Lean, step by step; how great the parts of what it reads are. No condition but those stated.
-/
import Derived.Test.YtifjnpdnnfdcoaaReqM
import Derived.Test.YtifjnpdnnfdcoaaReqZ
import Derived.Test.YtifjnpdnnfdcoaaReqI
namespace Go.Proofs.Ytifjnpdnnfdcoaa
open Go.RowKit
set_option linter.unusedSimpArgs false
set_option linter.unusedVariables false
set_option maxRecDepth 100000

def fT (c : Bool) (st : RS) : List UInt8 × RS := if c = true then rtext st mostN else ([], st)
def fN (c : Bool) (st : RS) : Int × RS := if c = true then upto st mostN else (0, st)
def fF (c : Bool) (st : RS) : Bool × RS := if c = true then rflag st else (false, st)
def fC (c : Bool) (st : RS) : List Cp × RS := if c = true then rdCmpsF st else ([], st)
def fA (c : Bool) (st : RS) : List Da × RS := if c = true then rdActsF st else ([], st)
/-- What stands behind the head. -/
def refK (c q : Int) (t : List UInt8) (k : Int) (s0 : RS) : Cm × RS :=
  let s1 := fT (hasL k 78) s0
  let s2 := fT (hasL k 79) s1.2
  let s3 := fT (hasL k 87) s2.2
  let s4 := fT (hasL k 83) s3.2
  let s5 := fN (hasL k 81) s4.2
  let s6 := fN (hasL k 81) s5.2
  let s7 := fN (hasL k 82) s6.2
  let s8 := fT (hasL k 71 || hasL k 80) s7.2
  let s9 := fT (hasL k 71 || hasL k 80) s8.2
  let s10 := fF (hasL k 71) s9.2
  let s11 := fF (hasL k 71) s10.2
  let s12 := fC (hasL k 84) s11.2
  let s13 := fA (hasL k 84) s12.2
  let s14 := fA (hasL k 84) s13.2
  (⟨c, q, t, k, s1.1, s2.1, s3.1, s4.1, s5.1, s6.1, s8.1, s9.1, s10.1, s11.1, s7.1, s12.1, s13.1, s14.1⟩, s14.2)
def refC (st : RS) : Cm × RS :=
  let r1 := upto st mostN
  let r2 := upto r1.2 mostN
  let r3 := upto r2.2 mostN
  let r4 := rtext r3.2 mostN
  refK r2.1 r3.1 r4.1 r1.1 r4.2
theorem hasL_all (k : Int) (h : isK k = true) : hasL k 78 = hasN k ∧ hasL k 79 = hasO k ∧ hasL k 87 = hasW k ∧ hasL k 83 = hasS k ∧ hasL k 81 = hasQ k ∧ hasL k 82 = hasR k ∧ hasL k 71 = hasG k ∧ hasL k 80 = decide (k = 12) ∧ hasL k 84 = hasT k := by
  have h' : k = 1 ∨ k = 2 ∨ k = 3 ∨ k = 4 ∨ k = 5 ∨ k = 6 ∨ k = 7 ∨ k = 8 ∨ k = 9 ∨ k = 10 ∨ k = 11 ∨ k = 12 ∨ k = 13 ∨ k = 14 := by simp [isK] at h; omega
  rcases h' with rfl | rfl | rfl | rfl | rfl | rfl | rfl | rfl | rfl | rfl | rfl | rfl | rfl | rfl <;> exact ⟨rfl, rfl, rfl, rfl, rfl, rfl, rfl, rfl, rfl⟩
theorem fT_y (t r : List UInt8) (h : t.length ≤ 8192) : fT true ⟨numB t.length ++ (t ++ r), false⟩ = (t, ⟨r, false⟩) := by
  simp only [fT, if_true]
  exact textQ_back t r mostN h (by simp [mostN])
theorem fT_n (s : RS) : fT false s = ([], s) := rfl
theorem fN_y (n : Int) (r : List UInt8) (h : okNum n = true) : fN true ⟨numB n.toNat ++ r, false⟩ = (n, ⟨r, false⟩) := by
  simp only [fN, if_true]
  exact numQ_back n r h
theorem fN_n (s : RS) : fN false s = (0, s) := rfl
theorem fF_y (b : Bool) (r : List UInt8) : fF true ⟨numB (if b then 1 else 0) ++ r, false⟩ = (b, ⟨r, false⟩) := by
  simp only [fF, if_true]
  exact flag_back b r
theorem fF_n (s : RS) : fF false s = (false, s) := rfl
theorem fC_n (s : RS) : fC false s = ([], s) := rfl
theorem fA_n (s : RS) : fA false s = ([], s) := rfl
set_option maxHeartbeats 4000000 in
/-- A right request's bytes are read back by the reference, too. -/
theorem refC_back (y : Cm) (hk : isK y.kind = true) (hc : cleanC y = y) (hr : rightC y = true) : refC ⟨reqB y, false⟩ = (y, ⟨[], false⟩) := by
  obtain ⟨i1, i2, i3, i4⟩ := right_of hr
  obtain ⟨w1, w2, w3, w4, w5, w6⟩ := wrong_of i2
  obtain ⟨b1, b2⟩ := bad_of i3
  obtain ⟨n1, n2⟩ := isK_num hk
  obtain ⟨n3, n4⟩ := ids_num i1
  clear hr i2 i3 i1
  obtain ⟨h1, h2, h3, h4, h5, h6, h7, h8, h9⟩ := hasL_all y.kind hk
  obtain ⟨client, seq, token, kind, name, other, word, salt, bytes, keys, gf, gt, gr, gw, rev, ifs, thens, elses⟩ := y
  simp only at hk w1 w2 w3 w4 w5 w6 b1 b2 n1 n2 n3 n4 h1 h2 h3 h4 h5 h6 h7 h8 h9
  have e1 := fun r => numQ_back kind r n1
  have e2 := fun r => numQ_back client r n3
  have e3 := fun r => numQ_back seq r n4
  have e4 := fun r => fN_y bytes r w1
  have e5 := fun r => fN_y keys r w2
  have e6 := fun r => fN_y rev r w3
  rw [reqB, reqIts] at i4 ⊢
  simp only [itsB_cons, nI_B, tI_B, List.append_assoc] at i4 ⊢
  have ht : token.length ≤ 8192 := by simp only [List.length_append] at i4; omega
  have e8 := fun r => textQ_back token r mostN ht (by simp [mostN])
  have go : ∀ q : List UInt8, refC ⟨numB kind.toNat ++ (numB client.toNat ++ (numB seq.toNat ++ (numB token.length ++ (token ++ q)))), false⟩ = refK client seq token kind ⟨q, false⟩ := by
    intro q
    unfold rnum at e1 e2 e3
    unfold refC
    simp only [e1, e2, e3, e8]
  rw [go]
  unfold refK
  simp only [h1, h2, h3, h4, h5, h6, h7, h8, h9]
  by_cases k2 : kind = 2
  · subst k2
    simp only [cleanC, hk, if_true, onlyC, hasN, hasO, hasW, hasS, hasQ, hasG, hasP, hasR, hasT] at hc
    simp at hc
    obtain ⟨rfl, rfl, rfl, rfl, rfl, rfl, rfl, rfl, rfl, rfl, rfl, ho1, ho2⟩ := hc
    have d1 : ∀ d ∈ thens, DaOk d := fun d hd => ⟨b1 d hd, map_own ho1 d hd, (w5 d hd).1, (w5 d hd).2⟩
    have d2 : ∀ d ∈ elses, DaOk d := fun d hd => ⟨b2 d hd, map_own ho2 d hd, (w6 d hd).1, (w6 d hd).2⟩
    simp only [tailIts, Int.reduceEq, if_true, if_false, itsB_app, List.append_assoc] at i4 ⊢
    have l1 := das_len thens
    have l2 := das_len elses
    have l3 := cps_len ifs
    have s1 : (itsB (dasIts thens)).length = (numB thens.length).length + (itsB (thens.flatMap daIts)).length := by rw [dasIts, itsB_cons, nI_B, Int.toNat_natCast, List.length_append]
    have s2 : (itsB (dasIts elses)).length = (numB elses.length).length + (itsB (elses.flatMap daIts)).length := by rw [dasIts, itsB_cons, nI_B, Int.toNat_natCast, List.length_append]
    have s3 : (itsB (cpsIts ifs)).length = (numB ifs.length).length + (itsB (ifs.flatMap cpIts)).length := by rw [cpsIts, itsB_cons, nI_B, Int.toNat_natCast, List.length_append]
    simp only [List.length_append] at i4
    have g1 := fun r => rdCmpsF_back ifs r w4 (by omega) (by omega)
    have g2 := fun r => rdActsF_back thens r d1 (by omega) (by omega)
    have g3 := rdActsF_back elses [] d2 (by omega) (by omega)
    rw [List.append_nil] at g3
    have z1 : hasN 2 = false := rfl
    have z2 : hasO 2 = false := rfl
    have z3 : hasW 2 = false := rfl
    have z4 : hasS 2 = false := rfl
    have z5 : hasQ 2 = false := rfl
    have z6 : hasR 2 = false := rfl
    have z7 : hasG 2 = false := rfl
    have z8 : decide ((2 : Int) = 12) = false := rfl
    have z9 : hasT 2 = true := rfl
    simp only [z1, z2, z3, z4, z5, z6, z7, z8, z9, Bool.or_self, Int.reduceEq, decide_false, fT_n, fN_n, fF_n, fC, fA, if_true, g1, g2, g3]
  · have hk' : kind = 1 ∨ kind = 3 ∨ kind = 4 ∨ kind = 5 ∨ kind = 6 ∨ kind = 7 ∨ kind = 8 ∨ kind = 9 ∨ kind = 10 ∨ kind = 11 ∨ kind = 12 ∨ kind = 13 ∨ kind = 14 := by simp [isK] at hk; omega
    clear h1 h2 h3 h4 h5 h6 h7 h8 h9 w4 w5 w6 b1 b2 k2
    rcases hk' with rfl | rfl | rfl | rfl | rfl | rfl | rfl | rfl | rfl | rfl | rfl | rfl | rfl
    all_goals
      simp only [cleanC, hk, if_true, onlyC, hasN, hasO, hasW, hasS, hasQ, hasG, hasP, hasR, hasT] at hc
      simp at hc
      simp only [tailIts, Int.reduceEq, if_true, if_false, or_true, true_or, or_false, false_or, itsB_cons, itsB_nil, tI_B, nI_B, fI_B, List.append_assoc, List.nil_append] at i4 ⊢
      simp only [List.length_append] at i4
      first
        | (obtain ⟨rfl, rfl, rfl, rfl, rfl, rfl, rfl, rfl, rfl, rfl, rfl⟩ := hc; skip)
        | (obtain ⟨rfl, rfl, rfl, rfl, rfl, rfl, rfl, rfl, rfl, rfl, rfl, rfl⟩ := hc; skip)
        | (obtain ⟨rfl, rfl, rfl, rfl, rfl, rfl, rfl, rfl, rfl, rfl, rfl, rfl, rfl⟩ := hc; skip)
        | (obtain ⟨rfl, rfl, rfl, rfl, rfl, rfl, rfl, rfl, rfl, rfl⟩ := hc; skip)
        | (obtain ⟨rfl, rfl, rfl, rfl, rfl, rfl, rfl, rfl, rfl⟩ := hc; skip)
      simp only [hasN, hasO, hasW, hasS, hasQ, hasG, hasR, hasT, Int.reduceEq, Int.reduceLE, decide_true, decide_false, Bool.or_true, Bool.true_or, Bool.or_false, Bool.false_or, Bool.or_self, fT_n, fN_n, fF_n, fC_n, fA_n]
      try (have q1 := fun r => fT_y name r (by omega); simp only [q1])
      try (have q2 := fun r => fT_y other r (by omega); simp only [q2])
      try (have q3 := fun r => fT_y word r (by omega); simp only [q3])
      try (have q4 := fun r => fT_y salt r (by omega); simp only [q4])
      try simp only [e4, e5, e6]
      try (have q5 := fun r => fT_y gf r (by omega); simp only [q5])
      try (have q6 := fun r => fT_y gt r (by omega); simp only [q6])
      try simp only [fF_y]
      try (have q1 := fT_y name [] (by omega); simp only [List.append_nil] at q1; simp only [q1])
      try (have q1 := fT_y other [] (by omega); simp only [List.append_nil] at q1; simp only [q1])
      try (have q1 := fT_y word [] (by omega); simp only [List.append_nil] at q1; simp only [q1])
      try (have q1 := fT_y salt [] (by omega); simp only [List.append_nil] at q1; simp only [q1])
      try (have q1 := fT_y gt [] (by omega); simp only [List.append_nil] at q1; simp only [q1])
      try (have q1 := fN_y keys [] w2; simp only [List.append_nil] at q1; simp only [q1])
      try (have q1 := fN_y rev [] w3; simp only [List.append_nil] at q1; simp only [q1])
      try (have q1 := fF_y gw []; simp only [List.append_nil] at q1; simp only [q1])
abbrev CR := Cm × RS
def sN (p : CR) : CR := if hasL p.1.kind 78 = true then ({p.1 with name := (rtext p.2 mostN).1}, (rtext p.2 mostN).2) else p
def sO (p : CR) : CR := if hasL p.1.kind 79 = true then ({p.1 with other := (rtext p.2 mostN).1}, (rtext p.2 mostN).2) else p
def sW (p : CR) : CR := if hasL p.1.kind 87 = true then ({p.1 with word := (rtext p.2 mostN).1}, (rtext p.2 mostN).2) else p
def sS (p : CR) : CR := if hasL p.1.kind 83 = true then ({p.1 with salt := (rtext p.2 mostN).1}, (rtext p.2 mostN).2) else p
def sQ (p : CR) : CR := if hasL p.1.kind 81 = true then ({p.1 with bytes := (upto p.2 mostN).1, keys := (upto (upto p.2 mostN).2 mostN).1}, (upto (upto p.2 mostN).2 mostN).2) else p
def sR (p : CR) : CR := if hasL p.1.kind 82 = true then ({p.1 with rev := (upto p.2 mostN).1}, (upto p.2 mostN).2) else p
def sP (p : CR) : CR := if (hasL p.1.kind 71 || hasL p.1.kind 80) = true then ({p.1 with gf := (rtext p.2 mostN).1, gt := (rtext (rtext p.2 mostN).2 mostN).1}, (rtext (rtext p.2 mostN).2 mostN).2) else p
def sG (p : CR) : CR := if hasL p.1.kind 71 = true then ({p.1 with gr := (rflag p.2).1, gw := (rflag (rflag p.2).2).1}, (rflag (rflag p.2).2).2) else p
def sT (p : CR) : CR := if hasL p.1.kind 84 = true then ({p.1 with ifs := (rdCmpsF p.2).1, thens := (rdActsF (rdCmpsF p.2).2).1, elses := (rdActsF (rdActsF (rdCmpsF p.2).2).2).1}, (rdActsF (rdActsF (rdCmpsF p.2).2).2).2) else p
def g9 (p : CR) : CR := p
def g8 (p : CR) : CR := g9 (sT p)
def g7 (p : CR) : CR := g8 (sG p)
def g6 (p : CR) : CR := g7 (sP p)
def g5 (p : CR) : CR := g6 (sR p)
def g4 (p : CR) : CR := g5 (sQ p)
def g3 (p : CR) : CR := g4 (sS p)
def g2 (p : CR) : CR := g3 (sW p)
def g1 (p : CR) : CR := g2 (sO p)
def g0 (p : CR) : CR := g1 (sN p)
theorem sN_eq (x : Cm) (s : RS) (h : x.name = []) : sN (x, s) = ({x with name := (fT (hasL x.kind 78) s).1}, (fT (hasL x.kind 78) s).2) := by
  unfold sN fT; cases x; simp only at h ⊢; subst h; split <;> rfl
theorem sO_eq (x : Cm) (s : RS) (h : x.other = []) : sO (x, s) = ({x with other := (fT (hasL x.kind 79) s).1}, (fT (hasL x.kind 79) s).2) := by
  unfold sO fT; cases x; simp only at h ⊢; subst h; split <;> rfl
theorem sW_eq (x : Cm) (s : RS) (h : x.word = []) : sW (x, s) = ({x with word := (fT (hasL x.kind 87) s).1}, (fT (hasL x.kind 87) s).2) := by
  unfold sW fT; cases x; simp only at h ⊢; subst h; split <;> rfl
theorem sS_eq (x : Cm) (s : RS) (h : x.salt = []) : sS (x, s) = ({x with salt := (fT (hasL x.kind 83) s).1}, (fT (hasL x.kind 83) s).2) := by
  unfold sS fT; cases x; simp only at h ⊢; subst h; split <;> rfl
theorem sQ_eq (x : Cm) (s : RS) (h : x.bytes = 0) (h2 : x.keys = 0) : sQ (x, s) = ({x with bytes := (fN (hasL x.kind 81) s).1, keys := (fN (hasL x.kind 81) (fN (hasL x.kind 81) s).2).1}, (fN (hasL x.kind 81) (fN (hasL x.kind 81) s).2).2) := by
  unfold sQ fN; cases x; simp only at h h2 ⊢; subst h; subst h2; split <;> rfl
theorem sR_eq (x : Cm) (s : RS) (h : x.rev = 0) : sR (x, s) = ({x with rev := (fN (hasL x.kind 82) s).1}, (fN (hasL x.kind 82) s).2) := by
  unfold sR fN; cases x; simp only at h ⊢; subst h; split <;> rfl
theorem sP_eq (x : Cm) (s : RS) (h : x.gf = []) (h2 : x.gt = []) : sP (x, s) = ({x with gf := (fT (hasL x.kind 71 || hasL x.kind 80) s).1, gt := (fT (hasL x.kind 71 || hasL x.kind 80) (fT (hasL x.kind 71 || hasL x.kind 80) s).2).1}, (fT (hasL x.kind 71 || hasL x.kind 80) (fT (hasL x.kind 71 || hasL x.kind 80) s).2).2) := by
  unfold sP fT; cases x; simp only at h h2 ⊢; subst h; subst h2; split <;> rfl
theorem sG_eq (x : Cm) (s : RS) (h : x.gr = false) (h2 : x.gw = false) : sG (x, s) = ({x with gr := (fF (hasL x.kind 71) s).1, gw := (fF (hasL x.kind 71) (fF (hasL x.kind 71) s).2).1}, (fF (hasL x.kind 71) (fF (hasL x.kind 71) s).2).2) := by
  unfold sG fF; cases x; simp only at h h2 ⊢; subst h; subst h2; split <;> rfl
theorem sT_eq (x : Cm) (s : RS) (h : x.ifs = []) (h2 : x.thens = []) (h3 : x.elses = []) : sT (x, s) = ({x with ifs := (fC (hasL x.kind 84) s).1, thens := (fA (hasL x.kind 84) (fC (hasL x.kind 84) s).2).1, elses := (fA (hasL x.kind 84) (fA (hasL x.kind 84) (fC (hasL x.kind 84) s).2).2).1}, (fA (hasL x.kind 84) (fA (hasL x.kind 84) (fC (hasL x.kind 84) s).2).2).2) := by
  unfold sT fC fA; cases x; simp only at h h2 h3 ⊢; subst h; subst h2; subst h3; split <;> rfl
theorem refC_steps (st : RS) : refC st = g0 (⟨(upto (upto st mostN).2 mostN).1, (upto (upto (upto st mostN).2 mostN).2 mostN).1, (rtext (upto (upto (upto st mostN).2 mostN).2 mostN).2 mostN).1, (upto st mostN).1, [], [], [], [], 0, 0, [], [], false, false, 0, [], [], []⟩, (rtext (upto (upto (upto st mostN).2 mostN).2 mostN).2 mostN).2) := by
  unfold g0 g1 g2 g3 g4 g5 g6 g7 g8 g9
  rw [sN_eq _ _ rfl, sO_eq _ _ rfl, sW_eq _ _ rfl, sS_eq _ _ rfl, sQ_eq _ _ rfl rfl, sR_eq _ _ rfl, sP_eq _ _ rfl rfl, sG_eq _ _ rfl rfl, sT_eq _ _ rfl rfl rfl]
  rfl
/-! ### bounds -/
theorem fT_len (c : Bool) (s : RS) : (fT c s).1.length ≤ s.s.length ∧ (fT c s).2.s.length ≤ s.s.length := by
  unfold fT
  split
  · exact ⟨(rtext_len s mostN).1, rtext_len3 s mostN⟩
  · simp
theorem fN_len (c : Bool) (s : RS) : (fN c s).1 < 9223372036854775808 ∧ (fN c s).2.s.length ≤ s.s.length := by
  unfold fN
  split
  · exact ⟨by have h1 := uptoQ_most s mostN (by simp [mostN]); have h2 : mostN = 4611686018427387903 := rfl; omega, upto_len s mostN⟩
  · simp
theorem fF_len (c : Bool) (s : RS) : (fF c s).2.s.length ≤ s.s.length := by
  unfold fF
  split
  · exact upto_len s _
  · simp
theorem up_small (s : RS) : (upto s mostN).1 < 9223372036854775808 := by have h1 := uptoQ_most s mostN (by simp [mostN]); have h2 : mostN = 4611686018427387903 := rfl; omega
theorem up3_small (s : RS) : (upto s 3).1 < 9223372036854775808 := by have := uptoQ_most s 3 (by omega); omega
theorem cmpR_small (s : RS) (hs : s.s.length ≤ 20000) : CpB (cmpR mostN s).1 := by
  have t1 := rtext_len s mostN
  have n1 := upto_len (rtext s mostN).2 4611686018427387903
  have n2 := upto_len (upto (rtext s mostN).2 4611686018427387903).2 4611686018427387903
  have t2 := rtext_len (upto (upto (rtext s mostN).2 4611686018427387903).2 4611686018427387903).2 mostN
  have q1 := up_small (rtext s mostN).2
  have q2 := up_small (upto (rtext s mostN).2 mostN).2
  unfold cmpR rnum
  simp only
  exact ⟨q1, q2, by simp only; omega, by simp only; omega⟩
theorem actR_small (s : RS) (hs : s.s.length ≤ 20000) : DaB (actR mostN s).1 := by
  have l0 := upto_len s 3
  have t1 := rtext_len (upto s 3).2 mostN
  have t2 := rtext_len (rtext (upto s 3).2 mostN).2 mostN
  have q0 := up3_small s
  have q1 := up_small (rtext (rtext (upto s 3).2 mostN).2 mostN).2
  have q2 := up_small (upto (rtext (rtext (upto s 3).2 mostN).2 mostN).2 mostN).2
  unfold actR rnum
  simp only
  repeat' split
  all_goals
    refine ⟨?_, ?_, ?_, ?_, ?_, ?_, ?_⟩ <;> first | exact q0 | exact q1 | exact q2 | (simp only [List.length_nil]; omega)
theorem actsF_small (n : Nat) (l : List Da) (s : RS) (hs : s.s.length ≤ 20000) (hl : ∀ d ∈ l, DaB d) : ∀ d ∈ (actsF n l s).1, DaB d := by
  induction n generalizing l s with
  | zero => simpa [actsF] using hl
  | succ n ih =>
    unfold actsF
    split
    · exact hl
    · refine ih _ _ ?_ ?_
      · rcases actR_less s mostN with h | h
        · rw [h]; simp [rfail]
        · omega
      · intro d hd
        rcases List.mem_append.1 hd with hd | hd
        · exact hl d hd
        · rw [List.mem_singleton.1 hd]; exact actR_small s hs
theorem cmpsF_slen (n : Nat) (l : List Cp) (s : RS) : (cmpsF n l s).2.s.length ≤ s.s.length := by
  induction n generalizing l s with
  | zero => simp [cmpsF]
  | succ n ih =>
    unfold cmpsF
    split
    · exact Nat.le_refl _
    · refine Nat.le_trans (ih _ _) ?_
      rcases cmpR_less s mostN with h | h
      · rw [h]; simp [rfail]
      · omega
theorem cmpsF_small (n : Nat) (l : List Cp) (s : RS) (hs : s.s.length ≤ 20000) (hl : ∀ d ∈ l, CpB d) : ∀ d ∈ (cmpsF n l s).1, CpB d := by
  induction n generalizing l s with
  | zero => simpa [cmpsF] using hl
  | succ n ih =>
    unfold cmpsF
    split
    · exact hl
    · refine ih _ _ ?_ ?_
      · rcases cmpR_less s mostN with h | h
        · rw [h]; simp [rfail]
        · omega
      · intro d hd
        rcases List.mem_append.1 hd with hd | hd
        · exact hl d hd
        · rw [List.mem_singleton.1 hd]; exact cmpR_small s hs
theorem actsF_fail (n : Nat) (l : List Da) : (actsF n l rfail).1 = l := by cases n <;> simp [actsF, rfail]
theorem cmpsF_fail (n : Nat) (l : List Cp) : (cmpsF n l rfail).1 = l := by cases n <;> simp [cmpsF, rfail]
theorem actsF_cnt (n : Nat) (l : List Da) (s : RS) : (actsF n l s).1.length ≤ l.length + s.s.length + 1 := by
  induction n generalizing l s with
  | zero => simp only [actsF]; omega
  | succ n ih =>
    unfold actsF
    split
    · simp only; omega
    · rcases actR_less s mostN with h | h
      · rw [h, actsF_fail]; simp only [List.length_append, List.length_singleton]; omega
      · refine Nat.le_trans (ih _ _) ?_
        simp only [List.length_append, List.length_singleton]; omega
theorem cmpsF_cnt (n : Nat) (l : List Cp) (s : RS) : (cmpsF n l s).1.length ≤ l.length + s.s.length + 1 := by
  induction n generalizing l s with
  | zero => simp only [cmpsF]; omega
  | succ n ih =>
    unfold cmpsF
    split
    · simp only; omega
    · rcases cmpR_less s mostN with h | h
      · rw [h, cmpsF_fail]; simp only [List.length_append, List.length_singleton]; omega
      · refine Nat.le_trans (ih _ _) ?_
        simp only [List.length_append, List.length_singleton]; omega
theorem fA_ok (c : Bool) (s : RS) (hs : s.s.length ≤ 20000) : (∀ d ∈ (fA c s).1, DaB d) ∧ (fA c s).1.length ≤ 20001 ∧ (fA c s).2.s.length ≤ s.s.length := by
  unfold fA rdActsF
  have hn := upto_len s 4611686018427387903
  split
  · refine ⟨actsF_small _ [] _ (by unfold rnum; omega) (by simp), ?_, Nat.le_trans (actsF_slen _ _ _) (by unfold rnum; omega)⟩
    have := actsF_cnt (rnum s).1.toNat [] (rnum s).2
    unfold rnum at this ⊢
    simp only [List.length_nil] at this
    omega
  · simp
theorem fC_ok (c : Bool) (s : RS) (hs : s.s.length ≤ 20000) : (∀ d ∈ (fC c s).1, CpB d) ∧ (fC c s).1.length ≤ 20001 ∧ (fC c s).2.s.length ≤ s.s.length := by
  unfold fC rdCmpsF
  have hn := upto_len s 4611686018427387903
  split
  · refine ⟨cmpsF_small _ [] _ (by unfold rnum; omega) (by simp), ?_, Nat.le_trans (cmpsF_slen _ _ _) (by unfold rnum; omega)⟩
    have := cmpsF_cnt (rnum s).1.toNat [] (rnum s).2
    unfold rnum at this ⊢
    simp only [List.length_nil] at this
    omega
  · simp
set_option maxHeartbeats 4000000 in
theorem refC_bound (s : List UInt8) (hs : s.length ≤ 20000) : CmB (refC ⟨s, false⟩).1 ∧ LenS (refC ⟨s, false⟩).1 ∧ (refC ⟨s, false⟩).2.s.length ≤ 20000 := by
  unfold refC
  obtain ⟨k, hk⟩ : ∃ k, k = (upto ⟨s, false⟩ mostN).1 := ⟨_, rfl⟩
  obtain ⟨r1, h1⟩ : ∃ r, r = (upto ⟨s, false⟩ mostN).2 := ⟨_, rfl⟩
  have a1 : r1.s.length ≤ 20000 := by rw [h1]; exact Nat.le_trans (upto_len _ _) hs
  simp only [← hk, ← h1]
  have c1 := up_small r1
  obtain ⟨r2, h2⟩ : ∃ r, r = (upto r1 mostN).2 := ⟨_, rfl⟩
  have a2 : r2.s.length ≤ 20000 := by rw [h2]; exact Nat.le_trans (upto_len _ _) a1
  simp only [← h2]
  have c2 := up_small r2
  obtain ⟨r3, h3⟩ : ∃ r, r = (upto r2 mostN).2 := ⟨_, rfl⟩
  have a3 : r3.s.length ≤ 20000 := by rw [h3]; exact Nat.le_trans (upto_len _ _) a2
  simp only [← h3]
  have c3 := rtext_len r3 mostN
  obtain ⟨u0, hu0⟩ : ∃ r, r = (rtext r3 mostN).2 := ⟨_, rfl⟩
  rw [← hu0] at c3
  simp only [← hu0]
  unfold refK
  simp only
  have e0 : u0.s.length ≤ 20000 := by omega
  have t1 := fT_len (hasL k 78) u0
  generalize fT (hasL k 78) u0 = v1 at t1 ⊢
  have t2 := fT_len (hasL k 79) v1.2
  generalize fT (hasL k 79) v1.2 = v2 at t2 ⊢
  have t3 := fT_len (hasL k 87) v2.2
  generalize fT (hasL k 87) v2.2 = v3 at t3 ⊢
  have t4 := fT_len (hasL k 83) v3.2
  generalize fT (hasL k 83) v3.2 = v4 at t4 ⊢
  have t5 := fN_len (hasL k 81) v4.2
  generalize fN (hasL k 81) v4.2 = v5 at t5 ⊢
  have t6 := fN_len (hasL k 81) v5.2
  generalize fN (hasL k 81) v5.2 = v6 at t6 ⊢
  have t7 := fN_len (hasL k 82) v6.2
  generalize fN (hasL k 82) v6.2 = v7 at t7 ⊢
  have t8 := fT_len (hasL k 71 || hasL k 80) v7.2
  generalize fT (hasL k 71 || hasL k 80) v7.2 = v8 at t8 ⊢
  have t9 := fT_len (hasL k 71 || hasL k 80) v8.2
  generalize fT (hasL k 71 || hasL k 80) v8.2 = v9 at t9 ⊢
  have t10 := fF_len (hasL k 71) v9.2
  generalize fF (hasL k 71) v9.2 = v10 at t10 ⊢
  have t11 := fF_len (hasL k 71) v10.2
  generalize fF (hasL k 71) v10.2 = v11 at t11 ⊢
  have t12 := fC_ok (hasL k 84) v11.2 (by omega)
  generalize fC (hasL k 84) v11.2 = v12 at t12 ⊢
  have t13 := fA_ok (hasL k 84) v12.2 (by omega)
  generalize fA (hasL k 84) v12.2 = v13 at t13 ⊢
  have t14 := fA_ok (hasL k 84) v13.2 (by omega)
  generalize fA (hasL k 84) v13.2 = v14 at t14 ⊢
  refine ⟨⟨c1, c2, t5.1, t6.1, t7.1, ?_, ?_, ?_, ?_, ?_, ?_, ?_, t12.1, t13.1, t14.1⟩, ⟨?_, ?_, ?_⟩, ?_⟩ <;> (try simp only) <;> omega
end Go.Proofs.Ytifjnpdnnfdcoaa
