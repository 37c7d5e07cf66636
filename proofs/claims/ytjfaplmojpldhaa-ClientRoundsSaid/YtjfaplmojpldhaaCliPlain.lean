/-
  Plain laws of a client: a note is no answer; which node is asked at which tick. No program in sight.
-/
import Derived.Test.YtjfaplmojpldhaaCliHear
import Derived.Test.YtjfaplmojpldhaaCliWake
namespace Go.Proofs.Ytjfaplmojpldhaa
open Go.RowKit
set_option linter.unusedSimpArgs false
set_option linter.unusedVariables false
set_option maxRecDepth 100000

theorem ansB_client {x : An} : ∃ r, ansB x = numB x.client.toNat ++ r := by
  refine ⟨itsB (nI x.seq :: nI x.err :: nI x.rev :: fI x.yes :: (otsIts x.outs ++ [tI x.token])), ?_⟩
  simp only [ansB, ansIts, itsB_cons, nI_B]
theorem decA_nul (r : List UInt8) : decA (numB 0 ++ r) = none := by
  cases h : decA (numB 0 ++ r) with
  | none => rfl
  | some x =>
    exfalso
    obtain ⟨h1, h2⟩ := decA_some h
    obtain ⟨q, hq⟩ := ansB_client (x := x)
    have hi := okIds_iff.1 (head_of (rightA_of h1).1).1
    rw [hq] at h2
    have e0 := numQ_back 0 r rfl
    have e1 := numQ_back x.client q (okNum_iff.2 ⟨by omega, by omega⟩)
    rw [← h2] at e1
    have e2 : (0 : Int) = x.client := by
      have := e0.symm.trans e1
      injection this
    omega
theorem decA_nil : decA [] = none := by
  cases h : decA [] with
  | none => rfl
  | some x =>
    exfalso
    obtain ⟨h1, h2⟩ := decA_some h
    obtain ⟨q, hq⟩ := ansB_client (x := x)
    rw [hq] at h2
    simp [numB] at h2
/-- A note is no answer. -/
theorem note_ans {s : List UInt8} {e l : Int} (h : rdNote s = (e, l, true)) : decA s = none := by
  unfold rdNote at h
  split at h
  · rename_i hz
    obtain ⟨g1, g2, g3⟩ := uptoQ_w (rend_nilN hz)
    obtain ⟨g4, g5, g6⟩ := uptoQ_w g1
    obtain ⟨g7, g8, g9⟩ := uptoQ_w g4
    have g8' := okNum_iff.1 g8
    have hz0 : (upto ⟨s, false⟩ 0).1.toNat = 0 := by omega
    rw [hz0] at g7
    injection g7 with g7
    rw [g7]
    exact decA_nul _
  · simp at h
theorem noteB_ans (e l : Int) : decA (noteB e l) = none := by
  cases h1 : okNum e with
  | false => rw [noteB_bad (.inl h1)]; exact decA_nil
  | true =>
    cases h2 : okNum l with
    | false => rw [noteB_bad (.inr h2)]; exact decA_nil
    | true => rw [noteB_ok h1 h2]; exact decA_nul _
theorem hear_note {k : Ct} (h : ¬ k.op = []) (e l : Int) : hearC k (noteB e l) = (if fineN e l = true then hearN k e l else k, false) := by
  have hr := rdNote_note e l
  cases hf : fineN e l with
  | true =>
    rw [hf] at hr
    rw [hearC_note h hr, if_pos rfl]
  | false =>
    rw [hf] at hr
    rw [hearC_none h hr (noteB_ans e l)]
    simp
/-! ### rounds -/
def roundX : Cm := ⟨0, 0, [], 3, [], [], [], [], 0, 0, [], [], false, false, 5, [], [], []⟩
def roundY : Cm := ⟨2, 1, [], 3, [], [], [], [], 0, 0, [], [], false, false, 5, [], [], []⟩
def roundS : List UInt8 := [1, 3, 1, 2, 1, 1, 0, 1, 5]
theorem roundY_bytes : reqB roundY = roundS := by
  simp [reqB, reqIts, tailIts, roundY, roundS, itsB_cons, itsB_nil, nI_B, tI_B, numB_smallW, numB_zeroW]
theorem roundY_enc : encC roundY = (roundS, 0) := by
  rw [encC_right roundY rfl rfl (by simp only [rightC, roundY_bytes]; decide), roundY_bytes]
theorem round_ask (n p : Int) : askC (newC 2 n p) roundX = ({newC 2 n p with seq := 1, op := roundS}, (roundS, 0)) := by
  unfold askC
  have e : cleanC (askX (newC 2 n p) roundX) = roundY := by
    have : askX (newC 2 n p) roundX = askX (newC 2 1 1) roundX := rfl
    rw [this]
    decide
  rw [e, roundY_enc, if_neg (by simp [newC]), if_neg (by simp [newC]), if_neg (by decide), if_pos rfl]
  rfl
/-- The request is open; the numbers stand. -/
structure Live (k : Ct) (n p : Nat) : Prop where
  op : k.op = roundS
  size : k.size = n
  pat : k.pat = p
  ans : k.ans = anZ
theorem Live.ne {k : Ct} {n p : Nat} (h : Live k n p) : ¬ k.op = [] := by rw [h.op]; simp [roundS]
theorem Live.hear {k : Ct} {n p : Nat} (h : Live k n p) (x : Int) : Live (hearC k (noteB 20 x)).1 n p ∧ (hearC k (noteB 20 x)).2 = false := by
  rw [hear_note h.ne]
  refine ⟨?_, rfl⟩
  simp only
  split
  · unfold hearN
    split
    · exact ⟨h.op, h.size, h.pat, h.ans⟩
    · exact h
  · exact h
theorem Live.tick {k : Ct} {n p : Nat} (h : Live k n p) (hb : CtB k) : Live (tickC k).1 n p ∧ ((∃ t : Nat, 1 ≤ t ∧ t ≤ n ∧ (tickC k).2 = ((t : Int), roundS, true)) ∨ (tickC k).2 = (0, [], false)) := by
  have hs := h.size
  have ht := hb.target
  obtain ⟨t, he⟩ : ∃ t : Nat, k.target = t := ⟨k.target.toNat, by omega⟩
  have hn : 0 < n := by omega
  unfold tickC
  rw [if_neg h.ne]
  split
  · refine ⟨⟨h.op, h.size, h.pat, h.ans⟩, .inl ⟨t % n + 1, by omega, by have := Nat.mod_lt t hn; omega, ?_⟩⟩
    simp only [h.op, hs, he]
    rw [show ((t : Int).tmod (n : Int)) = ((t % n : Nat) : Int) by rw [Int.ofNat_tmod]]
    simp
  · split
    · exact ⟨⟨h.op, h.size, h.pat, h.ans⟩, .inl ⟨t, by omega, by omega, by simp only [h.op, he]⟩⟩
    · exact ⟨⟨h.op, h.size, h.pat, h.ans⟩, .inr rfl⟩
/-- Behind `i` ticks: `t` was asked at the beginning, with `w` ticks waited. -/
def AtT (k : Ct) (n p t w i : Nat) : Prop :=
  (w + i = 0 ∧ k.target = t ∧ k.waited = 0) ∨ (1 ≤ w + i ∧ k.target = ((t - 1 + (w + i - 1) / p) % n + 1 : Nat) ∧ k.waited = ((w + i - 1) % p + 1 : Nat))
theorem atT_zero {k : Ct} {n p t w : Nat} (h1 : k.target = t) (h2 : k.waited = w) (ht : 1 ≤ t) (htn : t ≤ n) (hw : w ≤ p) (hp : 1 ≤ p) : AtT k n p t w 0 := by
  rcases Nat.eq_zero_or_pos w with h0 | h0
  · exact .inl ⟨by omega, h1, by omega⟩
  · refine .inr ⟨by omega, ?_, ?_⟩
    · rw [h1, Nat.div_eq_of_lt (by omega), Nat.add_zero, Nat.mod_eq_of_lt (by omega)]
      congr 1
      omega
    · rw [h2, Nat.mod_eq_of_lt (by omega)]
      congr 1
      omega
theorem modAB (a n : Nat) : ((a % n + 1) % n) = (a + 1) % n := by rw [Nat.mod_add_mod]
theorem atT_tick {k : Ct} {n p t w i : Nat} (h : Live k n p) (hb : CtB k) (ha : AtT k n p t w i) (ht : 1 ≤ t) (htn : t ≤ n) (hp : 1 ≤ p) :
    AtT (tickC k).1 n p t w (i + 1) ∧ (tickC k).2 = if (w + i) % p = 0 then ((((t - 1 + (w + i) / p) % n + 1 : Nat) : Int), roundS, true) else (0, [], false) := by
  have hs := h.size
  have hpp := h.pat
  have hne := h.ne
  have hop := h.op
  unfold tickC
  rw [if_neg hne]
  rcases ha with ⟨h0, h1, h2⟩ | ⟨h0, h1, h2⟩
  · rw [if_neg (by omega), if_pos (by omega), show w + i = 0 from h0, Nat.zero_mod, if_pos rfl]
    refine ⟨.inr ⟨by omega, ?_, ?_⟩, ?_⟩
    · simp only [h1]
      rw [show w + (i + 1) - 1 = 0 by omega, Nat.zero_div, Nat.add_zero, Nat.mod_eq_of_lt (by omega)]
      congr 1
      omega
    · simp only [h2]
      rw [show w + (i + 1) - 1 = 0 by omega, Nat.zero_mod]
      rfl
    · rw [Nat.zero_div, Nat.add_zero, Nat.mod_eq_of_lt (by omega), show t - 1 + 1 = t by omega, h1, hop]
  · obtain ⟨a, ha⟩ : ∃ a, a = w + i - 1 := ⟨_, rfl⟩
    have e1 : w + i = a + 1 := by omega
    have e2 : w + (i + 1) - 1 = a + 1 := by omega
    rw [← ha] at h1 h2
    rw [e1]
    have hd := Nat.div_add_mod a p
    have hm := Nat.mod_lt a (show 0 < p by omega)
    by_cases hc : a % p = p - 1
    · have e3 : a + 1 = p * (a / p + 1) := by rw [Nat.mul_add, Nat.mul_one]; omega
      have e4 : (a + 1) % p = 0 := by rw [e3]; exact Nat.mul_mod_right _ _
      have e5 : (a + 1) / p = a / p + 1 := by rw [e3]; exact Nat.mul_div_cancel_left _ (by omega)
      rw [if_pos (by omega), e4, if_pos rfl]
      have e6 : (k.target.tmod k.size + 1) = (((t - 1 + (a + 1) / p) % n + 1 : Nat) : Int) := by
        rw [h1, hs, e5, ← Nat.add_assoc]
        have : ((((t - 1 + a / p) % n + 1 : Nat) : Int).tmod (n : Int)) = ((((t - 1 + a / p) % n + 1) % n : Nat) : Int) := by rw [Int.ofNat_tmod]
        rw [this, modAB]
        simp
      refine ⟨.inr ⟨by omega, ?_, ?_⟩, ?_⟩
      · simp only [e6, e2]
      · simp only [e2, e4]
        rfl
      · rw [e6, hop]
    · have e4 : (a + 1) % p = a % p + 1 := by
        rw [show a + 1 = (a % p + 1) + p * (a / p) by omega, Nat.add_mul_mod_self_left]
        exact Nat.mod_eq_of_lt (by omega)
      have e5 : (a + 1) / p = a / p := by
        rw [show a + 1 = (a % p + 1) + p * (a / p) by omega, Nat.add_mul_div_left _ _ (by omega), Nat.div_eq_of_lt (by omega), Nat.zero_add]
      rw [if_neg (by omega), if_neg (by omega), if_neg (by omega)]
      refine ⟨.inr ⟨by omega, ?_, ?_⟩, rfl⟩
      · simp only [e2, e5, h1]
      · simp only [e2, e4, h2]
        simp
/-- Who was asked so far. -/
def Met (bs : List Bool) (n p t w i : Nat) : Prop := bs.length = 8 ∧ ∀ j, w ≤ j * p → j * p < w + i → bs[(t - 1 + j) % n + 1]? = some true
theorem Met.miss {bs : List Bool} {n p t w i : Nat} (h : Met bs n p t w i) (hc : ¬ (w + i) % p = 0) : Met bs n p t w (i + 1) := by
  refine ⟨h.1, fun j h1 h2 => h.2 j h1 ?_⟩
  rcases Nat.lt_or_ge (j * p) (w + i) with g | g
  · exact g
  · exfalso
    have : w + i = j * p := by omega
    rw [this] at hc
    exact hc (Nat.mul_mod_left _ _)
theorem Met.hit {bs : List Bool} {n p t w i : Nat} (h : Met bs n p t w i) (hc : (w + i) % p = 0) (hp : 1 ≤ p) (hn : n ≤ 7) (hn1 : 1 ≤ n) : Met (bs.set ((t - 1 + (w + i) / p) % n + 1) true) n p t w (i + 1) := by
  refine ⟨by rw [List.length_set]; exact h.1, fun j h1 h2 => ?_⟩
  rw [List.getElem?_set]
  split
  · rename_i he
    rw [if_pos (by rw [h.1]; have := Nat.mod_lt (t - 1 + (w + i) / p) (show 0 < n by omega); omega)]
  · rename_i he
    refine h.2 j h1 ?_
    rcases Nat.lt_or_ge (j * p) (w + i) with g | g
    · exact g
    · exfalso
      have e : w + i = j * p := by omega
      rw [e, Nat.mul_div_cancel _ (by omega)] at he
      exact he rfl
theorem Met.all {bs : List Bool} {n p t w : Nat} (h : Met bs n p t w (n * p + 1)) (hp : 1 ≤ p) (hn : 1 ≤ n) (hw : w ≤ p) {k : Nat} (h1 : 1 ≤ k) (h2 : k ≤ n) : bs[k]? = some true := by
  obtain ⟨j0, hj⟩ : ∃ j, j = if w = 0 then 0 else 1 := ⟨_, rfl⟩
  have hA := Nat.mod_lt (t - 1 + j0) (show 0 < n by omega)
  obtain ⟨A, hAe⟩ : ∃ A, A = (t - 1 + j0) % n := ⟨_, rfl⟩
  rw [← hAe] at hA
  obtain ⟨r, hr⟩ : ∃ r, r = (k - 1 + n - A) % n := ⟨_, rfl⟩
  have hrl : r < n := by rw [hr]; exact Nat.mod_lt _ (by omega)
  have e : (t - 1 + (j0 + r)) % n = k - 1 := by
    rw [← Nat.add_assoc, Nat.add_mod, ← hAe, hr, Nat.mod_mod, Nat.add_mod_mod, show A + (k - 1 + n - A) = k - 1 + n by omega, Nat.add_mod_right]
    exact Nat.mod_eq_of_lt (by omega)
  have h9 := h.2 (j0 + r) ?_ ?_
  · rw [e, show k - 1 + 1 = k by omega] at h9
    exact h9
  · split at hj
    · omega
    · rw [hj]
      have : 1 * p ≤ (1 + r) * p := Nat.mul_le_mul_right _ (by omega)
      omega
  · split at hj
    · have : (j0 + r) * p ≤ n * p := Nat.mul_le_mul_right _ (by omega)
      omega
    · have : (j0 + r) * p ≤ n * p := Nat.mul_le_mul_right _ (by omega)
      omega
end Go.Proofs.Ytjfaplmojpldhaa
