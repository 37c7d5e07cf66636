/-
 Requests as plain Lean: the bytes of a right one, and that they are read back. No condition.
-/
import Derived.Test.YtjfaplmojpldhaaZReqPlain2
import Derived.Test.YtjfaplmojpldhaaZReqE
import Derived.Test.YtjfaplmojpldhaaZReqI
namespace Go.Proofs.Ytjfaplmojpldhaa
open Go.RowKit
set_option linter.unusedSimpArgs false
set_option linter.unusedVariables false

def nI (n : Int) : It := ⟨0, n, [], false⟩
def tI (s : List UInt8) : It := ⟨1, 0, s, false⟩
def fI (b : Bool) : It := ⟨2, 0, [], b⟩
theorem nI_B (n : Int) : itB (nI n) = numB n.toNat := by simp [itB, nI]
theorem tI_B (s : List UInt8) : itB (tI s) = numB s.length ++ s := by simp [itB, tI]
theorem fI_B (b : Bool) : itB (fI b) = numB (if b then 1 else 0) := by cases b <;> simp [itB, fI]
theorem nI_w (st : WS) (n : Int) : wone st (nI n) = wnum st n := rfl
theorem tI_w (st : WS) (s : List UInt8) : wone st (tI s) = wtext st s := rfl
theorem fI_w (st : WS) (b : Bool) : wone st (fI b) = wflag st b := rfl
def cpIts (c : Cp) : List It := [tI c.key, nI c.what, nI c.rev, tI c.val]
def daIts (d : Da) : List It :=
 if d.kind = 1 then [nI d.kind, tI d.fr, tI d.to_, nI d.rev, nI d.most]
 else if d.kind = 2 then [nI d.kind, tI d.key, tI d.val]
 else if d.kind = 3 then [nI d.kind, tI d.fr, tI d.to_]
 else [nI d.kind]
def dasIts (l : List Da) : List It := nI l.length :: l.flatMap daIts
def cpsIts (l : List Cp) : List It := nI l.length :: l.flatMap cpIts
def tailIts (y : Cm) : List It :=
 if y.kind = 1 then [tI y.name, tI y.word]
 else if y.kind = 2 then cpsIts y.ifs ++ (dasIts y.thens ++ dasIts y.elses)
 else if y.kind = 3 then [nI y.rev]
 else if y.kind = 4 ∨ y.kind = 5 then [tI y.name, nI y.bytes, nI y.keys]
 else if y.kind = 6 then [tI y.name, tI y.other, tI y.word, tI y.salt]
 else if y.kind = 7 then [tI y.name, tI y.word, tI y.salt]
 else if y.kind = 8 ∨ y.kind = 10 then [tI y.name]
 else if y.kind = 11 then [tI y.name, tI y.gf, tI y.gt, fI y.gr, fI y.gw]
 else if y.kind = 12 then [tI y.name, tI y.gf, tI y.gt]
 else [tI y.name, tI y.other]
def reqIts (y : Cm) : List It := nI y.kind :: nI y.client :: nI y.seq :: tI y.token :: tailIts y
def itsB (l : List It) : List UInt8 := (l.map itB).flatten
def reqB (y : Cm) : List UInt8 := itsB (reqIts y)
theorem itsB_nil : itsB [] = [] := rfl
theorem itsB_cons (x : It) (l : List It) : itsB (x :: l) = itB x ++ itsB l := rfl
theorem itsB_app (l m : List It) : itsB (l ++ m) = itsB l ++ itsB m := by simp [itsB]
theorem wact_fold (st : WS) (d : Da) : wact st d = (daIts d).foldl wone st := by
 unfold wact daIts
 repeat' split
 all_goals simp only [List.foldl_cons, List.foldl_nil, nI_w, tI_w]
theorem wacts_fold (st : WS) (l : List Da) : wacts st l = (dasIts l).foldl wone st := by
 have key : ∀ (l : List Da) (st : WS), l.foldl wact st = (l.flatMap daIts).foldl wone st := by
  intro l
  induction l with
  | nil => intro st; rfl
  | cons d l ih => intro st; rw [List.foldl_cons, ih, List.flatMap_cons, List.foldl_append, wact_fold]
 rw [wacts, dasIts, List.foldl_cons, key, nI_w]
theorem wcmps_fold (st : WS) (l : List Cp) : l.foldl wcmp (wnum st l.length) = (cpsIts l).foldl wone st := by
 have key : ∀ (l : List Cp) (st : WS), l.foldl wcmp st = (l.flatMap cpIts).foldl wone st := by
  intro l
  induction l with
  | nil => intro st; rfl
  | cons d l ih => intro st; rw [List.foldl_cons, ih, List.flatMap_cons, List.foldl_append]; rfl
 rw [cpsIts, List.foldl_cons, key, nI_w]
theorem tail_fold (y : Cm) (st : WS) : encTail y st = (tailIts y).foldl wone st := by
 unfold encTail tailIts
 repeat' split
 all_goals simp only [List.foldl_cons, List.foldl_nil, List.foldl_append, nI_w, tI_w, fI_w, wacts_fold, wcmps_fold]
theorem enc_fold (y : Cm) : encTail y (encHead y) = (reqIts y).foldl wone ⟨[], 0⟩ := by
 rw [tail_fold]
 rfl
theorem daIts_tame (d : Da) : ∀ x ∈ daIts d, x.tame := by
 intro x hx
 unfold daIts at hx
 repeat' split at hx
 all_goals
  simp only [List.mem_cons, List.not_mem_nil, or_false] at hx
  rcases hx with rfl | rfl | rfl | rfl | rfl <;> simp [It.tame, nI, tI]
theorem reqIts_tame (y : Cm) : ∀ x ∈ reqIts y, x.tame := by
 have h1 : ∀ n, (nI n).tame := fun n => by simp [It.tame, nI]
 have h2 : ∀ n, (tI n).tame := fun n => by simp [It.tame, tI]
 have h3 : ∀ n, (fI n).tame := fun n => by simp [It.tame, fI]
 have h4 : ∀ l : List Da, ∀ x ∈ dasIts l, x.tame := by
  intro l x hx
  simp only [dasIts, List.mem_cons, List.mem_flatMap] at hx
  rcases hx with rfl | ⟨d, _, hx⟩
  ·exact h1 _
  ·exact daIts_tame d x hx
 have h5 : ∀ l : List Cp, ∀ x ∈ cpsIts l, x.tame := by
  intro l x hx
  simp only [cpsIts, cpIts, List.mem_cons, List.mem_flatMap, List.not_mem_nil, or_false] at hx
  rcases hx with rfl | ⟨d, _, rfl | rfl | rfl | rfl⟩
  ·exact h1 _
  all_goals first | exact h1 _ | exact h2 _
 intro x hx
 simp only [reqIts, List.mem_cons] at hx
 rcases hx with rfl | rfl | rfl | rfl | hx
 ·exact h1 _
 ·exact h1 _
 ·exact h1 _
 ·exact h2 _
 ·unfold tailIts at hx
  repeat' split at hx
  all_goals
   first
    | (simp only [List.mem_append] at hx; rcases hx with hx | hx | hx; exact h5 _ _ hx; exact h4 _ _ hx; exact h4 _ _ hx)
    | (simp only [List.mem_cons, List.not_mem_nil, or_false] at hx
       rcases hx with rfl | rfl | rfl | rfl | rfl <;> first | exact h1 _ | exact h2 _ | exact h3 _)
/-- Encode's bytes by things written. -/
theorem encC_written (y : Cm) : encC y = if okIds y.client y.seq = false then ([], 1) else if wrongC y = true ∨ badC y = true then ([], 1) else if (written [] (reqIts y)).2 = 0 then (if 8192 < (written [] (reqIts y)).1.length then ([], 2) else ((written [] (reqIts y)).1, 0)) else ([], (written [] (reqIts y)).2) := by
 unfold encC
 rw [enc_fold, fold_written _ _ (reqIts_tame y)]
/-- What is right: it has bytes. -/
def rightC (y : Cm) : Bool := okIds y.client y.seq && (!wrongC y) && (!badC y) && decide ((reqB y).length ≤ 8192)
def okNum (n : Int) : Bool := !bigN n
theorem okNum_iff {n : Int} : okNum n = true ↔ 0 ≤ n ∧ n ≤ 4611686018427387903 := by simp [okNum, bigN]
structure DaOk (d : Da) : Prop where
 kind : badA d = false
 own : actL d = d
 rev : okNum d.rev = true
 most : okNum d.most = true
structure CpOk (c : Cp) : Prop where
 what : okNum c.what = true
 rev : okNum c.rev = true
theorem okIds_iff {c s : Int} : okIds c s = true ↔ (1 ≤ c ∧ c ≤ 8) ∧ (1 ≤ s ∧ s ≤ 1099511627776) := by simp [okIds, and_assoc]
theorem wrong_of {y : Cm} (h : wrongC y = false) : okNum y.bytes = true ∧ okNum y.keys = true ∧ okNum y.rev = true ∧ (∀ c ∈ y.ifs, CpOk c) ∧ (∀ d ∈ y.thens, okNum d.rev = true ∧ okNum d.most = true) ∧ (∀ d ∈ y.elses, okNum d.rev = true ∧ okNum d.most = true) := by
 have h' : ∀ n ∈ numsC y, okNum n = true := by
  intro n hn
  simp only [wrongC, List.any_eq_false] at h
  simp [okNum, h n hn]
 refine ⟨h' _ (by simp [numsC]), h' _ (by simp [numsC]), h' _ (by simp [numsC]), fun c hc => ⟨h' _ ?_, h' _ ?_⟩, fun d hd => ⟨h' _ ?_, h' _ ?_⟩, fun d hd => ⟨h' _ ?_, h' _ ?_⟩⟩
 all_goals simp only [numsC, List.mem_append, List.mem_flatMap]
 ·exact Or.inl (Or.inr ⟨c, hc, by simp [cpNums]⟩)
 ·exact Or.inl (Or.inr ⟨c, hc, by simp [cpNums]⟩)
 ·exact Or.inr ⟨d, Or.inl hd, by simp [daNums]⟩
 ·exact Or.inr ⟨d, Or.inl hd, by simp [daNums]⟩
 ·exact Or.inr ⟨d, Or.inr hd, by simp [daNums]⟩
 ·exact Or.inr ⟨d, Or.inr hd, by simp [daNums]⟩
theorem wrong_to {y : Cm} (h1 : okNum y.bytes = true) (h2 : okNum y.keys = true) (h3 : okNum y.rev = true) (h4 : ∀ c ∈ y.ifs, CpOk c) (h5 : ∀ d ∈ y.thens, okNum d.rev = true ∧ okNum d.most = true) (h6 : ∀ d ∈ y.elses, okNum d.rev = true ∧ okNum d.most = true) : wrongC y = false := by
 simp only [wrongC, List.any_eq_false]
 intro n hn
 have : okNum n = true := by
  simp only [numsC, cpNums, daNums, List.mem_append, List.mem_flatMap, List.mem_cons, List.not_mem_nil, or_false] at hn
  rcases hn with ((rfl | rfl | rfl) | ⟨c, hc, rfl | rfl⟩) | ⟨d, hd | hd, rfl | rfl⟩
  ·exact h1
  ·exact h2
  ·exact h3
  ·exact (h4 c hc).what
  ·exact (h4 c hc).rev
  ·exact (h5 d hd).1
  ·exact (h5 d hd).2
  ·exact (h6 d hd).1
  ·exact (h6 d hd).2
 simpa [okNum] using this
end Go.Proofs.Ytjfaplmojpldhaa
namespace Go.Proofs.Ytjfaplmojpldhaa
open Go.RowKit
set_option linter.unusedSimpArgs false
set_option linter.unusedVariables false

theorem okNum_toNat {n : Int} (h : okNum n = true) : ((n.toNat : Nat) : Int) = n := Int.toNat_of_nonneg (okNum_iff.1 h).1
theorem uptoQ_w {st : RS} {m : Int} {r : List UInt8} (h : (upto st m).2 = ⟨r, false⟩) : st = ⟨numB (upto st m).1.toNat ++ r, false⟩ ∧ okNum (upto st m).1 = true ∧ (upto st m).1 ≤ m := by
  obtain ⟨h1, h2, h3, h4, h5⟩ := upto_was st m (upto st m).1 r (by rw [← h])
  refine ⟨?_, okNum_iff.2 ⟨h3, h4⟩, h5⟩
  cases st
  simp only at h1 h2
  rw [← h2, h1]
theorem numQ_w {st : RS} {r : List UInt8} (h : (rnum st).2 = ⟨r, false⟩) : st = ⟨numB (rnum st).1.toNat ++ r, false⟩ ∧ okNum (rnum st).1 = true := ⟨(uptoQ_w h).1, (uptoQ_w h).2.1⟩
theorem textQ_w {st : RS} {m : Int} {r : List UInt8} (h : (rtext st m).2 = ⟨r, false⟩) : st = ⟨numB (rtext st m).1.length ++ ((rtext st m).1 ++ r), false⟩ := by
  obtain ⟨h1, h2⟩ := text_was st m (rtext st m).1 r (by rw [← h])
  cases st
  simp only at h1 h2
  rw [← List.append_assoc, ← h2, h1]
theorem flagQ_w {st : RS} {r : List UInt8} (h : (rflag st).2 = ⟨r, false⟩) : st = ⟨numB (if (rflag st).1 then 1 else 0) ++ r, false⟩ := by
  obtain ⟨h1, h2, h3⟩ := uptoQ_w (st := st) (m := 1) h
  have h0 := (okNum_iff.1 h2).1
  have : (upto st 1).1 = 0 ∨ (upto st 1).1 = 1 := by omega
  have e : (rflag st).1 = ((upto st 1).1 == 1) := rfl
  rw [e]
  rcases this with q | q <;> rw [q] at h1 ⊢ <;> exact h1
theorem uptoQ_back (n : Int) (r : List UInt8) (m : Int) (h : okNum n = true) (hm : n ≤ m) : upto ⟨numB n.toNat ++ r, false⟩ m = (n, ⟨r, false⟩) := by
  have h' := okNum_iff.1 h
  rw [upto_back _ _ _ (by omega) (by omega), okNum_toNat h]
theorem numQ_back (n : Int) (r : List UInt8) (h : okNum n = true) : rnum ⟨numB n.toNat ++ r, false⟩ = (n, ⟨r, false⟩) := uptoQ_back n r _ h (okNum_iff.1 h).2
theorem okLen {n : Nat} (h : n ≤ 1048576) : okNum (n : Int) = true := okNum_iff.2 ⟨by omega, by omega⟩

end Go.Proofs.Ytjfaplmojpldhaa
namespace Go.Proofs.Ytjfaplmojpldhaa
open Go.RowKit
set_option linter.unusedSimpArgs false
set_option linter.unusedVariables false
set_option maxRecDepth 10000

theorem das_len (l : List Da) : l.length ≤ (itsB (l.flatMap daIts)).length := by
  induction l with
  | nil => simp
  | cons d l ih =>
    have : 1 ≤ (itsB (daIts d)).length := by
      unfold daIts
      repeat' split
      all_goals simp [itsB_cons, nI_B, numB]
    rw [List.flatMap_cons, itsB_app, List.length_append, List.length_cons]
    omega
theorem cps_len (l : List Cp) : l.length ≤ (itsB (l.flatMap cpIts)).length := by
  induction l with
  | nil => simp
  | cons d l ih =>
    have : 1 ≤ (itsB (cpIts d)).length := by
      unfold cpIts
      simp [itsB_cons, tI_B, numB]
    rw [List.flatMap_cons, itsB_app, List.length_append, List.length_cons]
    omega
theorem bad_of {y : Cm} (h : badC y = false) : (∀ d ∈ y.thens, badA d = false) ∧ (∀ d ∈ y.elses, badA d = false) := by
  simp only [badC, Bool.or_eq_false_iff, List.any_eq_false, Bool.not_eq_true] at h
  exact h
theorem right_of {y : Cm} (h : rightC y = true) : okIds y.client y.seq = true ∧ wrongC y = false ∧ badC y = false ∧ (reqB y).length ≤ 8192 := by
  simp only [rightC, Bool.and_eq_true, Bool.not_eq_true', decide_eq_true_eq, and_assoc] at h
  exact h
theorem isK_num {k : Int} (h : isK k = true) : okNum k = true ∧ k ≤ 14 := by
  simp only [isK, decide_eq_true_eq] at h
  exact ⟨okNum_iff.2 ⟨by omega, by omega⟩, h.2⟩
theorem ids_num {c s : Int} (h : okIds c s = true) : okNum c = true ∧ okNum s = true := by
  have := okIds_iff.1 h
  exact ⟨okNum_iff.2 ⟨by omega, by omega⟩, okNum_iff.2 ⟨by omega, by omega⟩⟩
theorem map_own {l : List Da} (h : l.map actL = l) : ∀ d ∈ l, actL d = d := by
  induction l with
  | nil => simp
  | cons d l ih =>
    simp only [List.map_cons, List.cons.injEq] at h
    intro x hx
    rcases List.mem_cons.1 hx with rfl | hx
    · exact h.1
    · exact ih h.2 x hx
theorem acts_its_ok {l : List Da} (h : ∀ d ∈ l, DaOk d) (hl : l.length ≤ 1048576) : ∀ x ∈ dasIts l, x.k = 0 → okNum x.n = true := by
  intro x hx hk
  simp only [dasIts, List.mem_cons, List.mem_flatMap] at hx
  rcases hx with rfl | ⟨d, hd, hx⟩
  · exact okLen hl
  · obtain ⟨h1, h2, h3, h4⟩ := h d hd
    have h5 : okNum d.kind = true := by
      simp only [badA, Bool.not_eq_false', Bool.or_eq_true, decide_eq_true_eq] at h1
      refine okNum_iff.2 ⟨by omega, by omega⟩
    unfold daIts at hx
    repeat' split at hx
    all_goals
      simp only [List.mem_cons, List.not_mem_nil, or_false] at hx
      rcases hx with rfl | rfl | rfl | rfl | rfl <;> first | exact h5 | exact h3 | exact h4 | (simp [tI] at hk)
theorem cps_its_ok {l : List Cp} (h : ∀ d ∈ l, CpOk d) (hl : l.length ≤ 1048576) : ∀ x ∈ cpsIts l, x.k = 0 → okNum x.n = true := by
  intro x hx hk
  simp only [cpsIts, cpIts, List.mem_cons, List.mem_flatMap, List.not_mem_nil, or_false] at hx
  rcases hx with rfl | ⟨d, hd, rfl | rfl | rfl | rfl⟩
  · exact okLen hl
  · simp [tI] at hk
  · exact (h d hd).what
  · exact (h d hd).rev
  · simp [tI] at hk
theorem written_ok (l : List It) (out : List UInt8) (h : ∀ x ∈ l, x.k = 0 → okNum x.n = true) (hl : out.length + (itsB l).length ≤ 2097152) : written out l = (out ++ itsB l, 0) := by
  induction l generalizing out with
  | nil => simp [written, itsB_nil]
  | cons x l ih =>
    rw [itsB_cons, List.length_append] at hl
    rw [written, if_neg, if_neg (by omega), ih _ (fun y hy => h y (by simp [hy])) (by rw [List.length_append]; omega), itsB_cons, List.append_assoc]
    rintro ⟨q1, q2⟩
    have := okNum_iff.1 (h x (by simp) q1)
    omega
theorem its_okQ (y : Cm) (hk : isK y.kind = true) (hc : cleanC y = y) (hi : okIds y.client y.seq = true) (hw : wrongC y = false) (hb : badC y = false) (hL : LenS y) : ∀ x ∈ reqIts y, x.k = 0 → okNum x.n = true := by
  obtain ⟨w1, w2, w3, w4, w5, w6⟩ := wrong_of hw
  obtain ⟨b1, b2⟩ := bad_of hb
  have o : (y.kind = 2 → (∀ d ∈ y.thens, DaOk d) ∧ (∀ d ∈ y.elses, DaOk d)) := by
    intro h2
    have q1 : (cleanC y).thens = y.thens := by rw [hc]
    have q2 : (cleanC y).elses = y.elses := by rw [hc]
    simp only [cleanC, hk, if_true, onlyC, hasT, h2, decide_true] at q1 q2
    exact ⟨fun d hd => ⟨b1 d hd, map_own q1 d hd, (w5 d hd).1, (w5 d hd).2⟩, fun d hd => ⟨b2 d hd, map_own q2 d hd, (w6 d hd).1, (w6 d hd).2⟩⟩
  intro x hx hx0
  simp only [reqIts, List.mem_cons] at hx
  rcases hx with rfl | rfl | rfl | rfl | hx
  · exact (isK_num hk).1
  · exact (ids_num hi).1
  · exact (ids_num hi).2
  · simp [tI] at hx0
  · unfold tailIts at hx
    split at hx
    · simp only [List.mem_cons, List.not_mem_nil, or_false] at hx
      rcases hx with rfl | rfl <;> simp [tI] at hx0
    · split at hx
      · rename_i h2
        simp only [List.mem_append] at hx
        rcases hx with hx | hx | hx
        · exact cps_its_ok w4 hL.i x hx hx0
        · exact acts_its_ok (o h2).1 hL.t x hx hx0
        · exact acts_its_ok (o h2).2 hL.e x hx hx0
      · repeat' split at hx
        all_goals
          simp only [List.mem_cons, List.not_mem_nil, or_false] at hx
          rcases hx with rfl | rfl | rfl | rfl | rfl <;> first | exact w1 | exact w2 | exact w3 | (simp [tI, fI] at hx0)
theorem lenS_of {y : Cm} (hk : isK y.kind = true) (hc : cleanC y = y) (hl : (reqB y).length ≤ 8192) : LenS y := by
  by_cases h2 : y.kind = 2
  · rw [reqB, reqIts] at hl
    simp only [tailIts, h2, Int.reduceEq, if_true, if_false, itsB_cons, itsB_app, List.length_append] at hl
    simp only [cpsIts, dasIts, itsB_cons, List.length_append] at hl
    have l1 := das_len y.thens
    have l2 := das_len y.elses
    have l3 := cps_len y.ifs
    exact ⟨by omega, by omega, by omega⟩
  · have q1 : (cleanC y).thens = y.thens := by rw [hc]
    have q2 : (cleanC y).elses = y.elses := by rw [hc]
    have q3 : (cleanC y).ifs = y.ifs := by rw [hc]
    simp only [cleanC, hk, if_true, onlyC, hasT, h2, decide_false, Bool.false_eq_true, if_false] at q1 q2 q3
    exact ⟨by rw [← q3]; simp, by rw [← q1]; simp, by rw [← q2]; simp⟩
/-- A right request's bytes. -/
theorem encC_right (y : Cm) (hk : isK y.kind = true) (hc : cleanC y = y) (hr : rightC y = true) : encC y = (reqB y, 0) := by
  obtain ⟨i1, i2, i3, i4⟩ := right_of hr
  have hw := written_ok (reqIts y) [] (its_okQ y hk hc i1 i2 i3 (lenS_of hk hc i4)) (by have : (reqB y).length = (itsB (reqIts y)).length := rfl; simp; omega)
  rw [encC_written, hw]
  have : ([] : List UInt8) ++ itsB (reqIts y) = reqB y := rfl
  simp only [this, i1, i2, i3, Bool.true_eq_false, Bool.false_eq_true, or_self, if_false, if_true]
  rw [if_neg (by omega)]
theorem encC_some (y : Cm) (bs : List UInt8) (h : encC y = (bs, 0)) : rightC y = true ∧ bs = reqB y := by
  rw [encC_written] at h
  split at h
  · simp at h
  · split at h
    · simp at h
    · split at h
      · split at h
        · simp at h
        · rename_i h1 h2 h3 h4
          obtain ⟨ws, hws⟩ : ∃ ws, written [] (reqIts y) = (ws, 0) := ⟨(written [] (reqIts y)).1, by rw [← h3]⟩
          have := (written_whole _ _ _ hws).1
          have e : ws = reqB y := by rw [this]; simp [reqB, itsB, List.flatMap]
          simp only [hws, Prod.mk.injEq, and_true] at h h4
          refine ⟨?_, by rw [← h, e]⟩
          rw [e] at h4
          simp only [not_or, Bool.not_eq_true] at h2
          simp only [rightC, h2.1, h2.2, show okIds y.client y.seq = true by simpa using h1, Bool.not_false, Bool.and_self, Bool.true_and, decide_eq_true_eq]
          omega
      · rename_i h3
        simp only [Prod.mk.injEq] at h
        exact absurd h.2 h3
end Go.Proofs.Ytjfaplmojpldhaa
namespace Go.Proofs.Ytjfaplmojpldhaa
open Go.RowKit
set_option linter.unusedSimpArgs false
set_option linter.unusedVariables false
set_option maxRecDepth 100000

end Go.Proofs.Ytjfaplmojpldhaa
namespace Go.Proofs.Ytjfaplmojpldhaa
open Go.RowKit
set_option linter.unusedSimpArgs false
set_option linter.unusedVariables false
set_option maxRecDepth 10000

/-- The document's bytes. -/
def badI (x : It) : Bool := decide (x.k = 0 ∧ (x.n < 0 ∨ 4611686018427387903 < x.n))
def refB (y : Cm) : List UInt8 × Int :=
  if okIds y.client y.seq = false then ([], 1)
  else if badC y = true then ([], 1)
  else if (reqIts y).any badI = true then ([], 1)
  else if (written [] (reqIts y)).2 = 0 then (if 8192 < (written [] (reqIts y)).1.length then ([], 2) else ((written [] (reqIts y)).1, 0))
  else ([], (written [] (reqIts y)).2)
theorem badI_no {x : It} (h : x.k = 0 → okNum x.n = true) : badI x = false := by
  simp only [badI, decide_eq_false_iff_not]
  rintro ⟨q1, q2⟩
  have := okNum_iff.1 (h q1)
  omega
theorem badI_num {n : Int} (h : badI (nI n) = false) : okNum n = true := by
  refine okNum_iff.2 ?_
  simp [badI, nI] at h
  omega
theorem act_rev {d : Da} (h : ¬ d.kind = 1) : (actL d).rev = 0 ∧ (actL d).most = 0 := by
  unfold actL
  rw [if_neg h]
  repeat' split
  all_goals exact ⟨rfl, rfl⟩
set_option maxHeartbeats 4000000 in
theorem refB_enc (y : Cm) (hk : isK y.kind = true) (hc : cleanC y = y) (hL : LenS y) : refB y = encC y := by
  rw [encC_written]
  unfold refB
  cases hi : okIds y.client y.seq with
  | false => rfl
  | true =>
    cases hb : badC y with
    | true => simp
    | false =>
      cases hw : wrongC y with
      | false =>
        have : (reqIts y).any badI = false := by
          simp only [List.any_eq_false, Bool.not_eq_true]
          exact fun x hx => badI_no (its_okQ y hk hc hi hw hb hL x hx)
        simp [this]
      | true =>
        have : (reqIts y).any badI = true := by
          cases ha : (reqIts y).any badI with
          | true => rfl
          | false =>
            exfalso
            simp only [List.any_eq_false, Bool.not_eq_true] at ha
            have z : okNum 0 = true := rfl
            have hw' : wrongC y = false := by
              obtain ⟨client, seq, token, kind, name, other, word, salt, bytes, keys, gf, gt, gr, gw, rev, ifs, thens, elses⟩ := y
              simp only at hk
              by_cases h2 : kind = 2
              · subst h2
                simp only [cleanC, hk, if_true, onlyC, hasN, hasO, hasW, hasS, hasQ, hasG, hasP, hasR, hasT] at hc
                simp at hc
                obtain ⟨rfl, rfl, rfl, rfl, rfl, rfl, rfl, rfl, rfl, rfl, rfl, ho1, ho2⟩ := hc
                have o1 := map_own ho1
                have o2 := map_own ho2
                simp only [reqIts, tailIts, Int.reduceEq, if_true, if_false] at ha
                have hact : ∀ d : Da, actL d = d → (∀ x ∈ daIts d, badI x = false) → okNum d.rev = true ∧ okNum d.most = true := by
                  intro d ho hx
                  by_cases hd : d.kind = 1
                  · simp only [daIts, hd, if_true] at hx
                    exact ⟨badI_num (hx _ (by simp)), badI_num (hx _ (by simp))⟩
                  · have := act_rev hd
                    rw [ho] at this
                    rw [this.1, this.2]
                    exact ⟨z, z⟩
                refine wrong_to z z z (fun c hc => ⟨badI_num (ha _ ?_), badI_num (ha _ ?_)⟩) (fun d hd => hact d (o1 d hd) fun x hx => ha _ ?_) (fun d hd => hact d (o2 d hd) fun x hx => ha _ ?_)
                · simp only [List.mem_cons, List.mem_append, cpsIts, List.mem_flatMap]
                  exact Or.inr (Or.inr (Or.inr (Or.inr (Or.inl (Or.inr ⟨c, hc, by simp [cpIts]⟩)))))
                · simp only [List.mem_cons, List.mem_append, cpsIts, List.mem_flatMap]
                  exact Or.inr (Or.inr (Or.inr (Or.inr (Or.inl (Or.inr ⟨c, hc, by simp [cpIts]⟩)))))
                · simp only [List.mem_cons, List.mem_append, dasIts, List.mem_flatMap]
                  exact Or.inr (Or.inr (Or.inr (Or.inr (Or.inr (Or.inl (Or.inr ⟨d, hd, hx⟩))))))
                · simp only [List.mem_cons, List.mem_append, dasIts, List.mem_flatMap]
                  exact Or.inr (Or.inr (Or.inr (Or.inr (Or.inr (Or.inr (Or.inr ⟨d, hd, hx⟩))))))
              · simp only [cleanC, hk, if_true, onlyC, hasT, h2, decide_false, Bool.false_eq_true, if_false, Cm.mk.injEq, true_and] at hc
                simp only [reqIts, tailIts, h2, if_false] at ha
                obtain ⟨_, _, _, _, c5, c6, _, _, _, _, c11, rfl, rfl, rfl⟩ := hc
                refine wrong_to ?_ ?_ ?_ (by simp) (by simp) (by simp)
                · by_cases q : kind = 4 ∨ kind = 5
                  · rw [if_neg (by omega), if_neg (by omega), if_pos q] at ha
                    exact badI_num (ha _ (by simp))
                  · simp only [hasQ, Bool.or_eq_true, decide_eq_true_eq, q, if_false] at c5
                    simp only [← c5, z]
                · by_cases q : kind = 4 ∨ kind = 5
                  · rw [if_neg (by omega), if_neg (by omega), if_pos q] at ha
                    exact badI_num (ha _ (by simp))
                  · simp only [hasQ, Bool.or_eq_true, decide_eq_true_eq, q, if_false] at c6
                    simp only [← c6, z]
                · by_cases q : kind = 3
                  · rw [if_neg (by omega), if_pos q] at ha
                    exact badI_num (ha _ (by simp))
                  · simp only [hasR, decide_eq_true_eq, q, if_false] at c11
                    simp only [← c11, z]
            rw [hw'] at hw
            simp at hw
        simp [this]
end Go.Proofs.Ytjfaplmojpldhaa
