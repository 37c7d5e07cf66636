/-
  Names and texts for eyes: the plain law. Plain Lean; no condition.
-/
import Derived.Test.YtbdknljpbgocmaaDoorNameBack
namespace Go.Proofs.YtbdknljpbgocmaaDoor
open Go.RowKit
set_option linter.unusedSimpArgs false
set_option linter.unusedVariables false

set_option maxHeartbeats 2000000 in
theorem szN_ext (n b0 b1 b2 b3 n' c0 c1 c2 c3 k : Nat) (h : szN n b0 b1 b2 b3 = k) (hk : 0 < k) (hn : k ≤ n') (h0 : c0 = b0) (h1 : 1 < k → c1 = b1) (h2 : 2 < k → c2 = b2) (h3 : 3 < k → c3 = b3) : szN n' c0 c1 c2 c3 = k := by
  subst h0
  have hc : k = 1 ∨ k = 2 ∨ k = 3 ∨ k = 4 := by
    subst h
    unfold szN at hk ⊢
    repeat' split
    all_goals (try omega)
    all_goals (repeat' split at hk)
    all_goals omega
  rcases hc with rfl | rfl | rfl | rfl
  · unfold szN at h ⊢
    repeat' split at h
    all_goals (try omega)
    repeat' split
    all_goals omega
  · have e1 := h1 (by omega)
    subst e1
    unfold szN at h ⊢
    repeat' split at h
    all_goals (try omega)
    repeat' split
    all_goals omega
  · have e1 := h1 (by omega)
    have e2 := h2 (by omega)
    subst e1 e2
    unfold szN at h ⊢
    repeat' split at h
    all_goals (try omega)
    repeat' split
    all_goals omega
  · have e1 := h1 (by omega)
    have e2 := h2 (by omega)
    have e3 := h3 (by omega)
    subst e1 e2 e3
    unfold szN at h ⊢
    repeat' split at h
    all_goals (try omega)
    repeat' split
    all_goals omega
theorem byteAt_take (r rest : List UInt8) (k i : Nat) (hi : i < k) (hk : k ≤ r.length) : byteAt (r.take k ++ rest) i = byteAt r i := by
  unfold byteAt
  rw [List.getElem?_append_left (by simp; omega), List.getElem?_take, if_pos hi]
theorem sz_prefix (r rest : List UInt8) (hk : sizeOf8 r ≠ 0) : sizeOf8 (r.take (sizeOf8 r) ++ rest) = sizeOf8 r := by
  have hle := sz_le r
  rw [sizeOf8_eq (r.take (sizeOf8 r) ++ rest)]
  refine szN_ext r.length (byteAt r 0) (byteAt r 1) (byteAt r 2) (byteAt r 3) _ _ _ _ _ _ (sizeOf8_eq r).symm (by omega) (by simp; omega) ?_ ?_ ?_ ?_
  · exact byteAt_take _ _ _ _ (by omega) hle
  · intro h; exact byteAt_take _ _ _ _ h hle
  · intro h; exact byteAt_take _ _ _ _ h hle
  · intro h; exact byteAt_take _ _ _ _ h hle
theorem sz_ascii (a : UInt8) (r : List UInt8) (h : a.toNat ≤ 127) : sizeOf8 (a :: r) = 1 := by
  rw [sizeOf8_eq]
  unfold szN
  rw [if_pos ⟨by simp, h⟩]
theorem take_len8 (r : List UInt8) : (r.take (sizeOf8 r)).length = sizeOf8 r := by have := sz_le r; simp; omega
theorem pieces_put (r rest : List UInt8) (hk : sizeOf8 r ≠ 0) : pieces (r.take (sizeOf8 r) ++ rest) = (r.take (sizeOf8 r), true) :: pieces rest := by
  have hl := take_len8 r
  have hp := sz_prefix r rest hk
  rw [pieces_ok _ (by rw [List.length_append]; omega) (by rw [hp]; exact hk), hp, List.take_left' hl, List.drop_left' hl]
theorem pieces_ascii (a : UInt8) (r : List UInt8) (h : a.toNat ≤ 127) : pieces (a :: r) = ([a], true) :: pieces r := by
  rw [pieces_ok _ (by simp) (by rw [sz_ascii a r h]; omega), sz_ascii a r h]
  rfl
theorem pieces_ind {M : List UInt8 → Prop} (nil : M []) (ok : ∀ r, 0 < r.length → sizeOf8 r ≠ 0 → M (r.drop (sizeOf8 r)) → M r) (bad : ∀ r, 0 < r.length → sizeOf8 r = 0 → M (r.drop 1) → M r) (r : List UInt8) : M r := by
  generalize hn : r.length = n
  induction n using Nat.strongRecOn generalizing r with
  | _ n ih =>
    rcases Nat.eq_zero_or_pos n with h0 | h0
    · have : r = [] := List.eq_nil_of_length_eq_zero (by omega)
      subst this
      exact nil
    · have h1 := sz_le r
      by_cases hk : sizeOf8 r = 0
      · exact bad r (by omega) hk (ih (n - 1) (by omega) _ (by simp; omega))
      · exact ok r (by omega) hk (ih (n - sizeOf8 r) (by omega) _ (by simp; omega))

/-! ### Together -/
def okAll (r : List UInt8) : Bool := (pieces r).all (·.2)
theorem pieces_join (s t : List UInt8) (h : okAll s = true) : pieces (s ++ t) = pieces s ++ pieces t := by
  revert h
  refine pieces_ind (M := fun s => okAll s = true → pieces (s ++ t) = pieces s ++ pieces t) (fun _ => rfl) (fun r hr hk ih h => ?_) (fun r hr hk ih h => ?_) s
  · have e := List.take_append_drop (sizeOf8 r) r
    unfold okAll at h
    rw [pieces_ok r hr hk] at h ⊢
    simp only [List.all_cons, Bool.true_and] at h
    conv => lhs; rw [← e, List.append_assoc, pieces_put r _ hk, ih h]
    rfl
  · unfold okAll at h
    rw [pieces_bad r hr hk] at h
    simp at h
theorem countR_ge (r : List UInt8) : (0 ≤ countR 0 r) ↔ okAll r = true := by
  unfold countR okAll
  split
  · rename_i h; simp [h]
  · rename_i h; simp [h]
theorem countR_len (r : List UInt8) (h : okAll r = true) : countR 0 r = (pieces r).length := by
  unfold countR
  unfold okAll at h
  rw [if_pos h, Nat.zero_add]
theorem count_join (s t : List UInt8) (h1 : okAll s = true) (h2 : okAll t = true) : countR 0 (s ++ t) = countR 0 s + countR 0 t ∧ okAll (s ++ t) = true := by
  have h3 : okAll (s ++ t) = true := by
    unfold okAll at *
    rw [pieces_join s t h1, List.all_append, h1, h2]; rfl
  refine ⟨?_, h3⟩
  rw [countR_len _ h3, countR_len _ h1, countR_len _ h2, pieces_join s t h1, List.length_append]
  omega
theorem nameC_weak (p : List UInt8) (h : nameC true p = true) (f : Bool) : nameC f p = true := by
  match p with
  | [] => exact h
  | [a] =>
    rw [nameC_one] at h ⊢
    rcases h with h | h | h | ⟨_, h⟩
    · exact .inl h
    · exact .inr (.inl h)
    · exact .inr (.inr (.inl h))
    · cases h
  | a :: b :: r => exact h
theorem rightP_join (f : Bool) (A B : List (List UInt8 × Bool)) (hA : A ≠ []) : rightP f (A ++ B) = (rightP f A && rightP false B) := by
  induction A generalizing f with
  | nil => exact absurd rfl hA
  | cons x A ih =>
    obtain ⟨p, ok⟩ := x
    cases A with
    | nil => simp [rightP]
    | cons y A =>
      have := ih false (by simp)
      simp only [List.cons_append, rightP] at this ⊢
      rw [this]
      simp only [Bool.and_assoc]
theorem rightP_weak (A : List (List UInt8 × Bool)) (h : rightP true A = true) : rightP false A = true := by
  cases A with
  | nil => rfl
  | cons x A =>
    obtain ⟨p, ok⟩ := x
    simp only [rightP, Bool.and_eq_true] at h ⊢
    exact ⟨⟨h.1.1, nameC_weak p h.1.2 false⟩, h.2⟩
theorem right_join (s t : List UInt8) (h1 : okAll s = true) (h2 : okAll t = true) (hs : rightL s = true) (ht : rightL t = true) : rightL (s ++ t) = decide (countR 0 s + countR 0 t ≤ 24) := by
  have h3 := (count_join s t h1 h2).2
  simp only [rightL, rightR, Bool.and_eq_true, decide_eq_true_eq, Nat.zero_add] at hs ht ⊢
  rw [countR_len _ h1, countR_len _ h2, pieces_join s t h1, rightP_join _ _ _ (by intro e; rw [e] at hs; simp at hs), hs.1.1, rightP_weak _ ht.1.1, List.length_append]
  simp only [Bool.and_self, Bool.true_and]
  rw [decide_eq_true (by omega), Bool.true_and, decide_eq_decide]
  omega

/-! ### The text for eyes -/
theorem byteAt_of (r : List UInt8) (i : Nat) (b : UInt8) (h : r[i]? = some b) : byteAt r i = b.toNat := by simp [byteAt, h]
theorem sz_bytes (n b0 b1 b2 b3 : Nat) (h : 1 < szN n b0 b1 b2 b3) : 128 ≤ b0 ∧ 128 ≤ b1 ∧ (2 < szN n b0 b1 b2 b3 → 128 ≤ b2) ∧ (3 < szN n b0 b1 b2 b3 → 128 ≤ b3) := by
  unfold szN at h ⊢
  repeat' split
  all_goals (try omega)
  all_goals (repeat' split at h)
  all_goals omega
theorem high_bytes (r : List UInt8) (h : 1 < sizeOf8 r) : ∀ b ∈ r.take (sizeOf8 r), 128 ≤ b.toNat := by
  intro b hb
  obtain ⟨i, hi⟩ := List.mem_iff_getElem?.1 hb
  rw [List.getElem?_take] at hi
  split at hi
  · rename_i hlt
    have hv := byteAt_of r i b hi
    have h4 := sz_le4 r
    rw [sizeOf8_eq] at h hlt h4
    have hs := sz_bytes _ _ _ _ _ h
    have : i = 0 ∨ i = 1 ∨ i = 2 ∨ i = 3 := by omega
    rcases this with rfl | rfl | rfl | rfl
    · omega
    · omega
    · have := hs.2.2.1 hlt; omega
    · have := hs.2.2.2 hlt; omega
  · cases hi
theorem self_bytes (r : List UInt8) (hr : 0 < r.length) (hk : sizeOf8 r ≠ 0) (hi : itselfB (r.take (sizeOf8 r)) = true) : ∀ b ∈ r.take (sizeOf8 r), 32 ≤ b.toNat ∧ b.toNat ≠ 127 ∧ b.toNat ≠ 92 := by
  intro b hb
  by_cases h1 : sizeOf8 r = 1
  · rw [h1] at hi hb
    match r, hr with
    | a :: r', _ =>
      simp only [List.take_succ_cons, List.take_zero, List.mem_singleton] at hb hi
      subst hb
      simp only [itselfB, decide_eq_true_eq] at hi
      omega
  · have := high_bytes r (by omega) b hb
    omega
theorem hexd_cases (n : Nat) (h : n < 16) : (hexd n).toNat = if n < 10 then 48 + n else 87 + n := by
  unfold hexd
  split <;> (rw [UInt8.toNat_ofNat']; omega)
theorem esc_bytes (p : List UInt8) : ∀ b ∈ escL p, 32 ≤ b.toNat ∧ b.toNat ≤ 126 := by
  intro b hb
  simp only [escL, List.mem_flatMap] at hb
  obtain ⟨x, _, hx⟩ := hb
  have hx2 := x.toNat_lt
  have h1 := hexd_cases (x.toNat / 16) (by omega)
  have h2 := hexd_cases (x.toNat % 16) (by omega)
  simp only [esc1, List.mem_cons, List.not_mem_nil, or_false] at hx
  rcases hx with rfl | rfl | rfl
  · decide
  · rw [h1]; split <;> omega
  · rw [h2]; split <;> omega
theorem plain_bytes (s : List UInt8) : ∀ b ∈ plainL s, 32 ≤ b.toNat ∧ b.toNat ≠ 127 := by
  refine pieces_ind (M := fun s => ∀ b ∈ plainL s, 32 ≤ b.toNat ∧ b.toNat ≠ 127) (by simp [plainL_nil]) (fun r hr hk ih b hb => ?_) (fun r hr hk ih b hb => ?_) s
  · cases hi : itselfB (r.take (sizeOf8 r)) with
    | true =>
      rw [plainL_self r hr hk hi, List.mem_append] at hb
      rcases hb with hb | hb
      · have := self_bytes r hr hk hi b hb; exact ⟨this.1, this.2.1⟩
      · exact ih b hb
    | false =>
      rw [plainL_esc r hr hk hi, List.mem_append] at hb
      rcases hb with hb | hb
      · have := esc_bytes _ b hb; omega
      · exact ih b hb
  · rw [plainL_bad r hr hk, List.mem_append] at hb
    rcases hb with hb | hb
    · have := esc_bytes _ b hb; omega
    · exact ih b hb
theorem okAll_put (r rest : List UInt8) (hk : sizeOf8 r ≠ 0) : okAll (r.take (sizeOf8 r) ++ rest) = okAll rest := by
  simp [okAll, pieces_put r rest hk]
theorem okAll_ascii (p rest : List UInt8) (h : ∀ b ∈ p, b.toNat ≤ 127) : okAll (p ++ rest) = okAll rest := by
  induction p with
  | nil => rfl
  | cons a p ih =>
    have h1 := ih fun b hb => h b (by simp [hb])
    simp only [okAll, List.cons_append] at h1 ⊢
    rw [pieces_ascii a _ (h a (by simp)), List.all_cons, h1]; rfl
theorem plain_ok (s : List UInt8) : okAll (plainL s) = true := by
  refine pieces_ind (M := fun s => okAll (plainL s) = true) rfl (fun r hr hk ih => ?_) (fun r hr hk ih => ?_) s
  · cases hi : itselfB (r.take (sizeOf8 r)) with
    | true => rw [plainL_self r hr hk hi, okAll_put _ _ hk]; exact ih
    | false => rw [plainL_esc r hr hk hi, okAll_ascii _ _ (fun b hb => by have := esc_bytes _ b hb; omega)]; exact ih
  · rw [plainL_bad r hr hk, okAll_ascii _ _ (fun b hb => by have := esc_bytes _ b hb; omega)]; exact ih

/-! ### Back -/
theorem back_self (p rest : List UInt8) (h : ∀ b ∈ p, b.toNat ≠ 92) : backL (p ++ rest) = (backL rest).map (p ++ ·) := by
  induction p with
  | nil => rw [List.nil_append]; cases h : backL rest <;> simp
  | cons a p ih =>
    rw [List.cons_append, backL_self _ _ (h a (by simp)), ih fun b hb => h b (by simp [hb]), Option.map_map]
    rfl
theorem two_hex (b : UInt8) : digV (hexd (b.toNat / 16)) ≤ 15 ∧ digV (hexd (b.toNat % 16)) ≤ 15 ∧ two (hexd (b.toNat / 16)) (hexd (b.toNat % 16)) = b := by
  have hb := b.toNat_lt
  have hd : ∀ n, n < 16 → digV (hexd n) = n := by
    intro n hn
    have := hexd_cases n hn
    unfold digV
    rw [this]
    split <;> (split at this <;> (try omega))
    all_goals (repeat' split)
    all_goals omega
  rw [hd _ (by omega), hd _ (by omega)]
  refine ⟨by omega, by omega, ?_⟩
  unfold two
  rw [hd _ (by omega), hd _ (by omega)]
  apply UInt8.toNat.inj
  rw [UInt8.toNat_ofNat']
  omega
theorem back_esc (p rest : List UInt8) : backL (escL p ++ rest) = (backL rest).map (p ++ ·) := by
  induction p with
  | nil => show backL rest = _; cases h : backL rest <;> simp
  | cons b p ih =>
    have e : escL (b :: p) ++ rest = 92 :: hexd (b.toNat / 16) :: hexd (b.toNat % 16) :: (escL p ++ rest) := by simp [escL, esc1]
    obtain ⟨h1, h2, h3⟩ := two_hex b
    rw [e, backL_esc _ _ _ _ (by decide), if_pos ⟨h1, h2⟩, h3, ih, Option.map_map]
    rfl
theorem back_plain (s : List UInt8) : backL (plainL s) = some s := by
  refine pieces_ind (M := fun s => backL (plainL s) = some s) rfl (fun r hr hk ih => ?_) (fun r hr hk ih => ?_) s
  · cases hi : itselfB (r.take (sizeOf8 r)) with
    | true =>
      rw [plainL_self r hr hk hi, back_self _ _ (fun b hb => (self_bytes r hr hk hi b hb).2.2), ih]
      simp
    | false =>
      rw [plainL_esc r hr hk hi, back_esc, ih]
      simp
  · rw [plainL_bad r hr hk, back_esc, ih]
    rw [Option.map_some, List.take_append_drop]
theorem plain_inj (s t : List UInt8) (h : plainL s = plainL t) : s = t := by
  have h1 := back_plain s
  rw [h, back_plain t] at h1
  injection h1 with h1
  exact h1.symm
theorem backAns_plain (s : List UInt8) : backAns (plainL s) = (s, true) := by simp [backAns, back_plain]
theorem backAns_no (s : List UInt8) (h : (backAns s).2 = false) : (backAns s).1 = [] := by
  unfold backAns at h ⊢
  split
  · split
    · simp_all
    · rfl
  · rfl
theorem backAns_yes (s : List UInt8) (h : (backAns s).2 = true) : plainL (backAns s).1 = s := by
  unfold backAns at h ⊢
  split
  · split
    · assumption
    · simp_all
  · simp_all
theorem nameC_itself (f : Bool) (p : List UInt8) (h : nameC f p = true) : itselfB p = true := by
  match p with
  | [] => exact h
  | [a] =>
    rw [nameC_one] at h
    simp only [itselfB, decide_eq_true_eq]
    omega
  | a :: b :: r => exact h
theorem plain_name (f : Bool) (s : List UInt8) (h : rightP f (pieces s) = true) : plainL s = s := by
  revert h f
  refine pieces_ind (M := fun s => ∀ f, rightP f (pieces s) = true → plainL s = s) (fun _ _ => rfl) (fun r hr hk ih f h => ?_) (fun r hr hk ih f h => ?_) s
  · rw [pieces_ok r hr hk] at h
    simp only [rightP, Bool.true_and, Bool.and_eq_true] at h
    rw [plainL_self r hr hk (nameC_itself f _ h.1), ih false h.2, List.take_append_drop]
  · rw [pieces_bad r hr hk] at h
    simp [rightP] at h
theorem right_plain (s : List UInt8) (h : rightL s = true) : plainL s = s := by
  simp only [rightL, rightR, Bool.and_eq_true] at h
  exact plain_name true s h.1.1
end Go.Proofs.YtbdknljpbgocmaaDoor
