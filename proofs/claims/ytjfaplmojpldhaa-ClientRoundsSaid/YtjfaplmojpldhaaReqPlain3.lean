/-
  Requests as plain Lean: the bytes of a right one, and that they are read back. No condition.
-/
import Derived.Test.YtjfaplmojpldhaaReqPlain2
import Derived.Test.YtjfaplmojpldhaaReqI

namespace Go.Proofs.Ytjfaplmojpldhaa
open Go.RowKit
set_option linter.unusedSimpArgs false
set_option linter.unusedVariables false

def nI (n : Int) : It := ⟨0, n, [], false⟩
def tI (s : List UInt8) : It := ⟨1, 0, s, false⟩
def fI (b : Bool) : It := ⟨2, 0, [], b⟩
theorem nI_B (n : Int) : itB (nI n) = numB n.toNat := by simp [itB, nI]
theorem tI_B (s : List UInt8) : itB (tI s) = numB s.length ++ s := by simp [itB, tI]
theorem fI_B (b : Bool) : itB (fI b) = numB (if b then 1 else 0) := by cases b <;> simp [itB, fI]
theorem nI_w (st : WS) (n : Int) : wone st (nI n) = wnum st n := rfl
theorem tI_w (st : WS) (s : List UInt8) : wone st (tI s) = wtext st s := rfl
theorem fI_w (st : WS) (b : Bool) : wone st (fI b) = wflag st b := rfl
def cpIts (c : Cp) : List It := [tI c.key, nI c.what, nI c.rev, tI c.val]
def daIts (d : Da) : List It :=
  if d.kind = 1 then [nI d.kind, tI d.fr, tI d.to_, nI d.rev, nI d.most]
  else if d.kind = 2 then [nI d.kind, tI d.key, tI d.val]
  else if d.kind = 3 then [nI d.kind, tI d.fr, tI d.to_]
  else [nI d.kind]
def dasIts (l : List Da) : List It := nI l.length :: l.flatMap daIts
def cpsIts (l : List Cp) : List It := nI l.length :: l.flatMap cpIts
def tailIts (y : Cm) : List It :=
  if y.kind = 1 then [tI y.name, tI y.word]
  else if y.kind = 2 then cpsIts y.ifs ++ (dasIts y.thens ++ dasIts y.elses)
  else if y.kind = 3 then [nI y.rev]
  else if y.kind = 4 ∨ y.kind = 5 then [tI y.name, nI y.bytes, nI y.keys]
  else if y.kind = 6 then [tI y.name, tI y.other, tI y.word, tI y.salt]
  else if y.kind = 7 then [tI y.name, tI y.word, tI y.salt]
  else if y.kind = 8 ∨ y.kind = 10 then [tI y.name]
  else if y.kind = 11 then [tI y.name, tI y.gf, tI y.gt, fI y.gr, fI y.gw]
  else if y.kind = 12 then [tI y.name, tI y.gf, tI y.gt]
  else [tI y.name, tI y.other]
def reqIts (y : Cm) : List It := nI y.kind :: nI y.client :: nI y.seq :: tI y.token :: tailIts y
def itsB (l : List It) : List UInt8 := (l.map itB).flatten
def reqB (y : Cm) : List UInt8 := itsB (reqIts y)
theorem itsB_nil : itsB [] = [] := rfl
theorem itsB_cons (x : It) (l : List It) : itsB (x :: l) = itB x ++ itsB l := rfl
theorem itsB_app (l m : List It) : itsB (l ++ m) = itsB l ++ itsB m := by simp [itsB]
theorem wact_fold (st : WS) (d : Da) : wact st d = (daIts d).foldl wone st := by
  unfold wact daIts
  repeat' split
  all_goals simp only [List.foldl_cons, List.foldl_nil, nI_w, tI_w]
theorem wacts_fold (st : WS) (l : List Da) : wacts st l = (dasIts l).foldl wone st := by
  have key : ∀ (l : List Da) (st : WS), l.foldl wact st = (l.flatMap daIts).foldl wone st := by
    intro l
    induction l with
    | nil => intro st; rfl
    | cons d l ih => intro st; rw [List.foldl_cons, ih, List.flatMap_cons, List.foldl_append, wact_fold]
  rw [wacts, dasIts, List.foldl_cons, key, nI_w]
theorem wcmps_fold (st : WS) (l : List Cp) : l.foldl wcmp (wnum st l.length) = (cpsIts l).foldl wone st := by
  have key : ∀ (l : List Cp) (st : WS), l.foldl wcmp st = (l.flatMap cpIts).foldl wone st := by
    intro l
    induction l with
    | nil => intro st; rfl
    | cons d l ih => intro st; rw [List.foldl_cons, ih, List.flatMap_cons, List.foldl_append]; rfl
  rw [cpsIts, List.foldl_cons, key, nI_w]
theorem tail_fold (y : Cm) (st : WS) : encTail y st = (tailIts y).foldl wone st := by
  unfold encTail tailIts
  repeat' split
  all_goals simp only [List.foldl_cons, List.foldl_nil, List.foldl_append, nI_w, tI_w, fI_w, wacts_fold, wcmps_fold]
theorem enc_fold (y : Cm) : encTail y (encHead y) = (reqIts y).foldl wone ⟨[], 0⟩ := by
  rw [tail_fold]
  rfl
theorem daIts_tame (d : Da) : ∀ x ∈ daIts d, x.tame := by
  intro x hx
  unfold daIts at hx
  repeat' split at hx
  all_goals
    simp only [List.mem_cons, List.not_mem_nil, or_false] at hx
    rcases hx with rfl | rfl | rfl | rfl | rfl <;> simp [It.tame, nI, tI]
theorem reqIts_tame (y : Cm) : ∀ x ∈ reqIts y, x.tame := by
  have h1 : ∀ n, (nI n).tame := fun n => by simp [It.tame, nI]
  have h2 : ∀ n, (tI n).tame := fun n => by simp [It.tame, tI]
  have h3 : ∀ n, (fI n).tame := fun n => by simp [It.tame, fI]
  have h4 : ∀ l : List Da, ∀ x ∈ dasIts l, x.tame := by
    intro l x hx
    simp only [dasIts, List.mem_cons, List.mem_flatMap] at hx
    rcases hx with rfl | ⟨d, _, hx⟩
    · exact h1 _
    · exact daIts_tame d x hx
  have h5 : ∀ l : List Cp, ∀ x ∈ cpsIts l, x.tame := by
    intro l x hx
    simp only [cpsIts, cpIts, List.mem_cons, List.mem_flatMap, List.not_mem_nil, or_false] at hx
    rcases hx with rfl | ⟨d, _, rfl | rfl | rfl | rfl⟩
    · exact h1 _
    all_goals first | exact h1 _ | exact h2 _
  intro x hx
  simp only [reqIts, List.mem_cons] at hx
  rcases hx with rfl | rfl | rfl | rfl | hx
  · exact h1 _
  · exact h1 _
  · exact h1 _
  · exact h2 _
  · unfold tailIts at hx
    repeat' split at hx
    all_goals
      first
        | (simp only [List.mem_append] at hx; rcases hx with hx | hx | hx; exact h5 _ _ hx; exact h4 _ _ hx; exact h4 _ _ hx)
        | (simp only [List.mem_cons, List.not_mem_nil, or_false] at hx
           rcases hx with rfl | rfl | rfl | rfl | rfl <;> first | exact h1 _ | exact h2 _ | exact h3 _)
/-- Encode's bytes by things written. -/
theorem encC_written (y : Cm) : encC y = if okIds y.client y.seq = false then ([], 1) else if wrongC y = true ∨ badC y = true then ([], 1) else if (written [] (reqIts y)).2 = 0 then (if 8192 < (written [] (reqIts y)).1.length then ([], 2) else ((written [] (reqIts y)).1, 0)) else ([], (written [] (reqIts y)).2) := by
  unfold encC
  rw [enc_fold, fold_written _ _ (reqIts_tame y)]
/-- What is right: it has bytes. -/
def rightC (y : Cm) : Bool := okIds y.client y.seq && (!wrongC y) && (!badC y) && decide ((reqB y).length ≤ 8192)
def okNum (n : Int) : Bool := !bigN n
theorem okNum_iff {n : Int} : okNum n = true ↔ 0 ≤ n ∧ n ≤ 4611686018427387903 := by simp [okNum, bigN]
structure DaOk (d : Da) : Prop where
  kind : badA d = false
  own : actL d = d
  rev : okNum d.rev = true
  most : okNum d.most = true
structure CpOk (c : Cp) : Prop where
  what : okNum c.what = true
  rev : okNum c.rev = true
theorem okIds_iff {c s : Int} : okIds c s = true ↔ (1 ≤ c ∧ c ≤ 8) ∧ (1 ≤ s ∧ s ≤ 1099511627776) := by simp [okIds, and_assoc]
theorem wrong_of {y : Cm} (h : wrongC y = false) : okNum y.bytes = true ∧ okNum y.keys = true ∧ okNum y.rev = true ∧ (∀ c ∈ y.ifs, CpOk c) ∧ (∀ d ∈ y.thens, okNum d.rev = true ∧ okNum d.most = true) ∧ (∀ d ∈ y.elses, okNum d.rev = true ∧ okNum d.most = true) := by
  have h' : ∀ n ∈ numsC y, okNum n = true := by
    intro n hn
    simp only [wrongC, List.any_eq_false] at h
    simp [okNum, h n hn]
  refine ⟨h' _ (by simp [numsC]), h' _ (by simp [numsC]), h' _ (by simp [numsC]), fun c hc => ⟨h' _ ?_, h' _ ?_⟩, fun d hd => ⟨h' _ ?_, h' _ ?_⟩, fun d hd => ⟨h' _ ?_, h' _ ?_⟩⟩
  all_goals simp only [numsC, List.mem_append, List.mem_flatMap]
  · exact Or.inl (Or.inr ⟨c, hc, by simp [cpNums]⟩)
  · exact Or.inl (Or.inr ⟨c, hc, by simp [cpNums]⟩)
  · exact Or.inr ⟨d, Or.inl hd, by simp [daNums]⟩
  · exact Or.inr ⟨d, Or.inl hd, by simp [daNums]⟩
  · exact Or.inr ⟨d, Or.inr hd, by simp [daNums]⟩
  · exact Or.inr ⟨d, Or.inr hd, by simp [daNums]⟩
theorem wrong_to {y : Cm} (h1 : okNum y.bytes = true) (h2 : okNum y.keys = true) (h3 : okNum y.rev = true) (h4 : ∀ c ∈ y.ifs, CpOk c) (h5 : ∀ d ∈ y.thens, okNum d.rev = true ∧ okNum d.most = true) (h6 : ∀ d ∈ y.elses, okNum d.rev = true ∧ okNum d.most = true) : wrongC y = false := by
  simp only [wrongC, List.any_eq_false]
  intro n hn
  have : okNum n = true := by
    simp only [numsC, cpNums, daNums, List.mem_append, List.mem_flatMap, List.mem_cons, List.not_mem_nil, or_false] at hn
    rcases hn with ((rfl | rfl | rfl) | ⟨c, hc, rfl | rfl⟩) | ⟨d, hd | hd, rfl | rfl⟩
    · exact h1
    · exact h2
    · exact h3
    · exact (h4 c hc).what
    · exact (h4 c hc).rev
    · exact (h5 d hd).1
    · exact (h5 d hd).2
    · exact (h6 d hd).1
    · exact (h6 d hd).2
  simpa [okNum] using this
end Go.Proofs.Ytjfaplmojpldhaa
