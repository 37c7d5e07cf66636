/-
  Messages as plain Lean: the bytes of a right one, and that they are read back. No condition.
-/
import Derived.Test.YtihklmomipidaaaMsgF
import Derived.Test.YtihklmomipidaaaMsgG
namespace Go.Proofs.Ytihklmomipidaaa
open Go.RowKit
set_option linter.unusedSimpArgs false
set_option linter.unusedVariables false

/-- A thing that can be written. -/
def itOk (x : It) : Bool := decide (x.k = 0 ∨ x.k = 1 ∨ x.k = 2) && (decide (x.k ≠ 0) || decide (0 ≤ x.n ∧ x.n ≤ 4611686018427387903))
theorem wone_itOk (out : List UInt8) (x : It) (h : itOk x = true) (hl : out.length + (itB x).length ≤ 2097152) : wone ⟨out, 0⟩ x = ⟨out ++ itB x, 0⟩ := by
  simp only [itOk, Bool.and_eq_true, decide_eq_true_eq, Bool.or_eq_true] at h
  obtain ⟨h1, h2⟩ := h
  unfold wone itB at *
  rcases h1 with h1 | h1 | h1
  · have hn : 0 ≤ x.n ∧ x.n ≤ 4611686018427387903 := by rcases h2 with h2 | h2; exact absurd h1 h2; exact h2
    simp only [h1] at hl ⊢
    simp only [show ((0 : Int) = 1) = False by simp, show ((0 : Int) = 2) = False by simp, if_false] at hl ⊢
    unfold wnum wput
    rw [if_neg (by omega), if_neg (by simp), if_neg (by simp only; omega)]
  · simp only [h1, if_true] at hl ⊢
    unfold wtext wput
    rw [if_neg (by simp), if_neg (by simp only; omega)]
  · simp only [h1, show ((2 : Int) = 1) = False by simp, if_false, if_true] at hl ⊢
    unfold wflag wput
    rw [if_neg (by simp), if_neg (by simp only; omega)]
theorem fold_ok (l : List It) (out : List UInt8) (h : ∀ x ∈ l, itOk x = true) (hl : out.length + ((l.map itB).flatten).length ≤ 2097152) : l.foldl wone ⟨out, 0⟩ = ⟨out ++ (l.map itB).flatten, 0⟩ := by
  induction l generalizing out with
  | nil => simp
  | cons x l ih =>
    simp only [List.map_cons, List.flatten_cons, List.length_append] at hl
    simp only [List.foldl_cons, List.map_cons, List.flatten_cons]
    rw [wone_itOk out x (h x (by simp)) (by omega), ih _ (fun y hy => h y (by simp [hy])) (by rw [List.length_append]; omega), List.append_assoc]
theorem nIt_B (n : Int) : itB (nIt n) = numB n.toNat := by simp [itB, nIt]
theorem tIt_B (s : List UInt8) : itB (tIt s) = numB s.length ++ s := by simp [itB, tIt]
theorem fIt_B (b : Bool) : itB (fIt b) = numB (if b then 1 else 0) := by cases b <;> simp [itB, fIt]
def entsB (l : List Ent) : List UInt8 := ((entIts l).map itB).flatten
theorem entsB_nil : entsB [] = [] := rfl
theorem entsB_append (l m : List Ent) : entsB (l ++ m) = entsB l ++ entsB m := by simp [entsB, entIts]
theorem entsB_one (e : Ent) : entsB [e] = numB e.term.toNat ++ (numB e.data.length ++ e.data) := by simp [entsB, entIts, nIt_B, tIt_B]
theorem entsB_len (l : List Ent) (h : ∀ e ∈ l, (0 ≤ e.term ∧ e.term ≤ 1099511627776) ∧ e.data.length ≤ 8192) : (entsB l).length ≤ l.length * 8210 := by
  induction l with
  | nil => simp [entsB_nil]
  | cons e l ih =>
    have := ih fun x hx => h x (by simp [hx])
    obtain ⟨⟨h1, h2⟩, h3⟩ := h e (by simp)
    have l1 := numB_len e.term.toNat (by omega)
    have l2 := numB_len e.data.length (by omega)
    rw [show e :: l = [e] ++ l from rfl, entsB_append, entsB_one]
    simp only [List.length_append, List.length_cons, List.length_nil]
    omega
theorem up_back (n : Int) (rest : List UInt8) (h : 0 ≤ n ∧ n ≤ 1099511627776) : up ⟨numB n.toNat ++ rest, false⟩ = (n, ⟨rest, false⟩) := by
  have := upto_back n.toNat rest 1099511627776 (by omega) (by omega)
  unfold up
  rw [this]
  simp [Int.toNat_of_nonneg h.1]
theorem readEs_back (b : Int) (l : List Ent) (rest : List UInt8) (h : ∀ (i : Nat) (e : Ent), l[i]? = some e → entOk (b + i) e = true) : readEs b l.length ⟨entsB l ++ rest, false⟩ = (l, ⟨rest, false⟩) := by
  have key : ∀ (k : Nat), k ≤ l.length → readEs b k ⟨entsB l ++ rest, false⟩ = (l.take k, ⟨entsB (l.drop k) ++ rest, false⟩) := by
    intro k
    induction k with
    | zero => intro _; simp [readEs]
    | succ k ih =>
      intro hk
      obtain ⟨e, he⟩ : ∃ e, l[k]? = some e := ⟨_, List.getElem?_eq_getElem (by omega)⟩
      have hd : l.drop k = [e] ++ l.drop (k + 1) := by
        have := (List.getElem?_eq_some_iff.1 he)
        rw [List.drop_eq_getElem_cons this.1, this.2]
        rfl
      have ho := h k e he
      simp only [entOk, okN, Bool.and_eq_true, decide_eq_true_eq] at ho
      obtain ⟨⟨o1, o2⟩, o3⟩ := ho
      have hu := up_back e.term (numB e.data.length ++ e.data ++ (entsB (l.drop (k + 1)) ++ rest)) o2
      have ht := text_back e.data (entsB (l.drop (k + 1)) ++ rest) 8192 (by omega) (by omega)
      unfold up at hu
      unfold readEs
      rw [ih (by omega)]
      simp only
      rw [hd, entsB_append, entsB_one]
      simp only [List.append_assoc] at hu ht ⊢
      rw [hu]
      simp only
      rw [ht]
      rw [List.take_add_one, he, ← o1]
      rfl
  have := key l.length (Nat.le_refl _)
  simpa [entsB_nil] using this
theorem flat_cons (x : It) (l : List It) : ((x :: l).map itB).flatten = itB x ++ (l.map itB).flatten := rfl
/-- A right message's bytes are read back, whatever stands behind. -/
theorem read_back (x : Rw) (rest : List UInt8) (hk : isKind x.kind = true) (hc : cleanL x = x) (hr : rightR x = true) : readM ⟨msgB x ++ rest, false⟩ = (x, ⟨rest, false⟩) := by
  obtain ⟨b1, b2, b3, b4, b5, b6, b7, b8, b9⟩ := right_small hr
  have hes : ∀ (i : Nat) (e : Ent), x.es[i]? = some e → entOk (x.index + 1 + i) e = true := by
    simp only [rightR, Bool.and_eq_true] at hr
    exact (esOk_iff _ _).1 hr.2
  obtain ⟨kind, src, term, index, last, commit, round, yes, es, data⟩ := x
  simp only at hk hc b1 b2 b3 b4 b5 b6 b7 b8 b9 hes
  have bk : 0 ≤ kind ∧ kind ≤ 1099511627776 := by simp [isKind] at hk; omega
  have e1 := fun r => up_back kind r bk
  have e2 := fun r => up_back src r b1
  have e3 := fun r => up_back term r b2
  have e4 := fun r => up_back index r b3
  have e5 := fun r => up_back last r b4
  have e6 := fun r => up_back commit r b5
  have e7 := fun r => up_back round r b6
  have e8 := fun r => flag_back yes r
  have e9 := fun r => text_back data r 1048576 (by omega) (by omega)
  have e10 := fun r => upto_back es.length r 8 (by omega) (by omega)
  have e11 := fun r => readEs_back (index + 1) es r hes
  have ne : ((2 : Int) = 1) = False ∧ ((3 : Int) = 1) = False ∧ ((3 : Int) = 2) = False ∧ ((4 : Int) = 1) = False ∧ ((4 : Int) = 2) = False ∧ ((4 : Int) = 3) = False ∧ ((5 : Int) = 1) = False ∧ ((5 : Int) = 2) = False ∧ ((5 : Int) = 3) = False ∧ ((5 : Int) = 4) = False := by simp
  obtain ⟨n1, n2, n3, n4, n5, n6, n7, n8, n9, n10⟩ := ne
  rcases kind_cases hk with rfl | rfl | rfl | rfl | rfl
  all_goals
    simp [cleanL] at hc
    simp only [msgB, msgIts, List.cons_append, List.nil_append, if_true, if_false, n1, n2, n3, n4, n5, n6, n7, n8, n9, n10, flat_cons, nIt_B, tIt_B, fIt_B, List.map_nil, List.flatten_nil, List.append_nil, List.append_assoc, List.singleton_append]
    simp only [readM, e1, e2, e3, readK, if_true, if_false, n1, n2, n3, n4, n5, n6, n7, n8, n9, n10]
  · obtain ⟨rfl, rfl, rfl, rfl, rfl⟩ := hc
    simp only [tail1, e4, e5]
  · obtain ⟨rfl, rfl, rfl, rfl, rfl, rfl⟩ := hc
    simp only [tail2, e8]
  · obtain ⟨rfl, rfl⟩ := hc
    have e10' := fun r => e10 r
    simp only [tail3, tail3n, e4, e5, e6, e7, Int.toNat_natCast, e10, show ∀ r, ((entIts es).map itB).flatten ++ r = entsB es ++ r from fun _ => rfl, e11]
  · obtain ⟨rfl, rfl, rfl, rfl⟩ := hc
    simp only [tail4, e4, e7, e8]
  · obtain ⟨rfl, rfl, rfl⟩ := hc
    simp only [List.append_assoc] at e9
    simp only [tail5, e4, e5, e7, e9]
theorem its_ok (x : Rw) (hk : isKind x.kind = true) (hr : rightR x = true) : (∀ i ∈ msgIts x, itOk i = true) ∧ (msgB x).length ≤ 2097152 := by
  obtain ⟨b1, b2, b3, b4, b5, b6, b7, b8, b9⟩ := right_small hr
  have hn : ∀ n : Int, 0 ≤ n ∧ n ≤ 1099511627776 → itOk (nIt n) = true ∧ (itB (nIt n)).length ≤ 9 := fun n h => ⟨by have h2 : 0 ≤ n ∧ n ≤ 4611686018427387903 := (by omega); simp [itOk, nIt, h2], by rw [nIt_B]; exact numB_len _ (by omega)⟩
  have bk : 0 ≤ x.kind ∧ x.kind ≤ 1099511627776 := by simp [isKind] at hk; omega
  have hf : itOk (fIt x.yes) = true ∧ (itB (fIt x.yes)).length ≤ 9 := ⟨by simp [itOk, fIt], by rw [fIt_B]; exact numB_len _ (by cases x.yes <;> simp)⟩
  have ht : itOk (tIt x.data) = true ∧ (itB (tIt x.data)).length ≤ 1048585 := ⟨by simp [itOk, tIt], by rw [tIt_B, List.length_append]; have := numB_len x.data.length (by omega); omega⟩
  have hel := entsB_len x.es b9
  have hei : ∀ i ∈ entIts x.es, itOk i = true := by
    intro i hi
    simp only [entIts, List.mem_flatMap] at hi
    obtain ⟨e, he, hi⟩ := hi
    have := b9 e he
    simp at hi
    rcases hi with rfl | rfl
    · exact (hn _ this.1).1
    · simp [itOk, tIt]
  have hc : (0 : Int) ≤ (x.es.length : Int) ∧ (x.es.length : Int) ≤ 1099511627776 := by omega
  obtain ⟨k1, k2⟩ := hn _ bk
  obtain ⟨s1, s2⟩ := hn _ b1
  obtain ⟨t1, t2⟩ := hn _ b2
  obtain ⟨i1, i2⟩ := hn _ b3
  obtain ⟨l1, l2⟩ := hn _ b4
  obtain ⟨c1, c2⟩ := hn _ b5
  obtain ⟨r1, r2⟩ := hn _ b6
  obtain ⟨e1, e2⟩ := hn _ hc
  unfold entsB at hel
  rcases kind_cases hk with h | h | h | h | h
  · simp only [msgB, msgIts, h, if_true] at *
    refine ⟨by simp [k1, s1, t1, i1, l1], ?_⟩
    simp [flat_cons]; omega
  · simp only [msgB, msgIts, h, show ((2 : Int) = 1) = False by simp, if_true, if_false] at *
    refine ⟨by simp [k1, s1, t1, hf.1], ?_⟩
    simp [flat_cons]; omega
  · simp only [msgB, msgIts, h, show ((3 : Int) = 1) = False by simp, show ((3 : Int) = 2) = False by simp, if_true, if_false] at *
    refine ⟨by simp only [List.cons_append, List.nil_append, List.mem_cons]; rintro i (rfl | rfl | rfl | rfl | rfl | rfl | rfl | rfl | hi); all_goals first | assumption | exact hei i hi, ?_⟩
    simp [flat_cons] at hel ⊢; omega
  · simp only [msgB, msgIts, h, show ((4 : Int) = 1) = False by simp, show ((4 : Int) = 2) = False by simp, show ((4 : Int) = 3) = False by simp, if_true, if_false] at *
    refine ⟨by simp [k1, s1, t1, i1, r1, hf.1], ?_⟩
    simp [flat_cons]; omega
  · simp only [msgB, msgIts, h, show ((5 : Int) = 1) = False by simp, show ((5 : Int) = 2) = False by simp, show ((5 : Int) = 3) = False by simp, show ((5 : Int) = 4) = False by simp, if_true, if_false] at *
    refine ⟨by simp [k1, s1, t1, i1, l1, r1, ht.1], ?_⟩
    simp [flat_cons]; omega
theorem encW_ok (x : Rw) (hk : isKind x.kind = true) (hr : rightR x = true) : encW x = ⟨msgB x, 0⟩ := by
  obtain ⟨h1, h2⟩ := its_ok x hk hr
  have := fold_ok (msgIts x) [] h1 (by simpa [msgB] using h2)
  simpa [encW, msgB] using this
theorem encL_ok (x : Rw) (hk : isKind x.kind = true) (hr : rightR x = true) : encL x = (msgB x, 0) := by
  rw [encL, if_pos hr, encW_ok x hk hr]
  simp [wbytes]
theorem up_w {st : RS} {r : List UInt8} (h : (up st).2 = ⟨r, false⟩) : st = ⟨numB (up st).1.toNat ++ r, false⟩ ∧ okN (up st).1 = true := up_was (n := (up st).1) (r := r) (by rw [← h])
theorem flag_w {st : RS} {r : List UInt8} (h : (rflag st).2 = ⟨r, false⟩) : st = ⟨numB (if (rflag st).1 then 1 else 0) ++ r, false⟩ := flag_was (b := (rflag st).1) (by rw [← h])
theorem text_w {st : RS} {m : Int} {r : List UInt8} (h : (rtext st m).2 = ⟨r, false⟩) : st = ⟨numB (rtext st m).1.length ++ (rtext st m).1 ++ r, false⟩ := text_was' (t := (rtext st m).1) (by rw [← h])
theorem readEs_w (b : Int) (k : Nat) (st : RS) (r : List UInt8) (h : (readEs b k st).2 = ⟨r, false⟩) : st = ⟨entsB (readEs b k st).1 ++ r, false⟩ ∧ ∀ (i : Nat) (e : Ent), (readEs b k st).1[i]? = some e → entOk (b + i) e = true := by
  induction k generalizing r with
  | zero => simp only [readEs] at h ⊢; exact ⟨by rw [h]; rfl, by simp⟩
  | succ k ih =>
    simp only [readEs] at h
    have h1 := text_w h
    have hm := text_most (upto (readEs b k st).2 1099511627776).2 8192 (by omega)
    obtain ⟨h2, h3⟩ := up_w (st := (readEs b k st).2) (by unfold up; exact h1)
    obtain ⟨h4, h5⟩ := ih _ h2
    have hl := readEs_len b k st
    simp only [readEs]
    refine ⟨?_, fun i e he => ?_⟩
    · rw [entsB_append, entsB_one]
      simpa [up, List.append_assoc] using h4
    · by_cases hi : i < (readEs b k st).1.length
      · rw [List.getElem?_append_left hi] at he
        exact h5 i e he
      · rw [List.getElem?_append_right (by omega)] at he
        have hik : i = k := by
          have := (List.getElem?_eq_some_iff.1 he).1
          simp at this
          omega
        subst hik
        rw [hl] at he
        simp at he
        subst he
        simp only [entOk, Bool.and_eq_true, decide_eq_true_eq]
        exact ⟨⟨trivial, h3⟩, by omega⟩
/-- What was read to the end is a right message's bytes. -/
theorem read_was (s rest : List UInt8) (r : Rw) (h : readM ⟨s, false⟩ = (r, ⟨rest, false⟩)) (hk : isKind r.kind = true) : s = msgB r ++ rest ∧ rightR r = true ∧ cleanL r = r := by
  unfold readM at h
  obtain ⟨st0, hst0⟩ : ∃ st0 : RS, st0 = ⟨s, false⟩ := ⟨_, rfl⟩
  rw [← hst0] at h
  obtain ⟨k, hkk⟩ : ∃ k, k = (up st0).1 := ⟨_, rfl⟩
  obtain ⟨f, hf⟩ : ∃ f, f = (up (up st0).2).1 := ⟨_, rfl⟩
  obtain ⟨t, ht⟩ : ∃ t, t = (up (up (up st0).2).2).1 := ⟨_, rfl⟩
  obtain ⟨sc, hsc⟩ : ∃ sc, sc = (up (up (up st0).2).2).2 := ⟨_, rfl⟩
  rw [← hkk, ← hf, ← ht, ← hsc] at h
  have hkr : r.kind = k := by have := readK_kind k f t sc; rw [h] at this; exact this
  -- the head, once the state behind it is known
  have head : ∀ q : List UInt8, sc = ⟨q, false⟩ → s = numB k.toNat ++ (numB f.toNat ++ (numB t.toNat ++ q)) ∧ okN k = true ∧ okN f = true ∧ okN t = true := by
    intro q hq
    rw [hsc] at hq
    obtain ⟨h1, h2⟩ := up_w hq
    obtain ⟨h3, h4⟩ := up_w h1
    obtain ⟨h5, h6⟩ := up_w h3
    rw [hst0] at h5
    injection h5 with h5 _
    rw [← hst0] at h5
    rw [hkk, hf, ht]
    exact ⟨h5, h6, h4, h2⟩
  have ne : ((2 : Int) = 1) = False ∧ ((3 : Int) = 1) = False ∧ ((3 : Int) = 2) = False ∧ ((4 : Int) = 1) = False ∧ ((4 : Int) = 2) = False ∧ ((4 : Int) = 3) = False ∧ ((5 : Int) = 1) = False ∧ ((5 : Int) = 2) = False ∧ ((5 : Int) = 3) = False ∧ ((5 : Int) = 4) = False := by simp
  obtain ⟨n1, n2, n3, n4, n5, n6, n7, n8, n9, n10⟩ := ne
  have z : okN 0 = true := by decide
  rw [hkr] at hk
  clear hkk hf ht hsc hst0 hkr
  rcases kind_cases hk with rfl | rfl | rfl | rfl | rfl
  · simp only [readK, if_true, tail1, Prod.mk.injEq] at h
    obtain ⟨rfl, h⟩ := h
    obtain ⟨h1, h2⟩ := up_w h
    obtain ⟨h3, h4⟩ := up_w h1
    obtain ⟨e, o1, o2, o3⟩ := head _ h3
    refine ⟨?_, by simp [rightR, o2, o3, h2, h4, z, esOk], by simp [cleanL]⟩
    rw [e]
    simp only [msgB, msgIts, List.cons_append, List.nil_append, if_true, flat_cons, nIt_B, List.map_nil, List.flatten_nil, List.append_nil, List.append_assoc]
  · simp only [readK, if_true, if_false, n1, tail2, Prod.mk.injEq] at h
    obtain ⟨rfl, h⟩ := h
    have h1 := flag_w h
    obtain ⟨e, o1, o2, o3⟩ := head _ h1
    refine ⟨?_, by simp [rightR, o2, o3, z, esOk], by simp [cleanL]⟩
    rw [e]
    simp only [msgB, msgIts, List.cons_append, List.nil_append, if_true, if_false, n1, flat_cons, nIt_B, fIt_B, List.map_nil, List.flatten_nil, List.append_nil, List.append_assoc]
  · simp only [readK, if_true, if_false, n2, n3, tail3, tail3n, Prod.mk.injEq] at h
    obtain ⟨rfl, h⟩ := h
    obtain ⟨h1, hes⟩ := readEs_w _ _ _ _ h
    obtain ⟨g1, g2, g3, g4, g5⟩ := upto_was (up (up (up (up sc).2).2).2).2 8 _ _ (show upto (up (up (up (up sc).2).2).2).2 8 = ((upto (up (up (up (up sc).2).2).2).2 8).1, ⟨_, false⟩) by rw [← h1])
    have h4 : (up (up (up (up sc).2).2).2).2 = ⟨numB (upto (up (up (up (up sc).2).2).2).2 8).1.toNat ++ (entsB (readEs ((up sc).1 + 1) (upto (up (up (up (up sc).2).2).2).2 8).1.toNat (upto (up (up (up (up sc).2).2).2).2 8).2).1 ++ rest), false⟩ := by
      rw [← g2, ← g1]
    obtain ⟨h5, o5⟩ := up_w h4
    obtain ⟨h6, o6⟩ := up_w h5
    obtain ⟨h7, o7⟩ := up_w h6
    obtain ⟨h8, o8⟩ := up_w h7
    obtain ⟨e, o1, o2, o3⟩ := head _ h8
    have hl := readEs_len ((up sc).1 + 1) (upto (up (up (up (up sc).2).2).2).2 8).1.toNat (upto (up (up (up (up sc).2).2).2).2 8).2
    refine ⟨?_, ?_, by simp [cleanL]⟩
    · rw [e]
      simp only [msgB, msgIts, List.cons_append, List.nil_append, if_true, if_false, n2, n3, flat_cons, nIt_B, List.map_nil, List.flatten_nil, List.append_nil, List.append_assoc, hl, Int.toNat_natCast]
      rfl
    · have he := (esOk_iff ((up sc).1 + 1) _).2 hes
      simp only [rightR, o2, o3, o5, o6, o7, o8, he, hl, Bool.and_true, Bool.true_and]
      simp
      omega
  · simp only [readK, if_true, if_false, n4, n5, n6, tail4, Prod.mk.injEq] at h
    obtain ⟨rfl, h⟩ := h
    have h1 := flag_w h
    obtain ⟨h2, h3⟩ := up_w h1
    obtain ⟨h4, h5⟩ := up_w h2
    obtain ⟨e, o1, o2, o3⟩ := head _ h4
    refine ⟨?_, by simp [rightR, o2, o3, h3, h5, z, esOk], by simp [cleanL]⟩
    rw [e]
    simp only [msgB, msgIts, List.cons_append, List.nil_append, if_true, if_false, n4, n5, n6, flat_cons, nIt_B, fIt_B, List.map_nil, List.flatten_nil, List.append_nil, List.append_assoc]
  · simp only [readK, if_true, if_false, n7, n8, n9, n10, tail5, Prod.mk.injEq] at h
    obtain ⟨rfl, h⟩ := h
    have h1 := text_w h
    have hm := text_most (up (up (up sc).2).2).2 1048576 (by omega)
    obtain ⟨h2, o4⟩ := up_w h1
    obtain ⟨h3, o5⟩ := up_w h2
    obtain ⟨h4, o6⟩ := up_w h3
    obtain ⟨e, o1, o2, o3⟩ := head _ h4
    refine ⟨?_, ?_, by simp [cleanL]⟩
    · rw [e]
      simp only [msgB, msgIts, List.cons_append, List.nil_append, if_true, if_false, n7, n8, n9, n10, flat_cons, nIt_B, tIt_B, List.map_nil, List.flatten_nil, List.append_nil, List.append_assoc]
    · simp only [rightR, o2, o3, o4, o5, o6, z, esOk, Bool.and_true, Bool.true_and]
      simp
      omega
theorem dec_enc (x : Rw) (hk : isKind x.kind = true) (hc : cleanL x = x) (hr : rightR x = true) : decL (msgB x) = some x := by
  have := read_back x [] hk hc hr
  rw [List.append_nil] at this
  unfold decL
  rw [this]
  simp only [hk, rend_zero', and_self, if_true]
end Go.Proofs.Ytihklmomipidaaa
