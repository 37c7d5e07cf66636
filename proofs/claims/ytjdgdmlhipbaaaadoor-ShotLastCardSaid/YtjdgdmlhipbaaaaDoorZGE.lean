/-
  Chapter 8 in plain words, more: a right snapshot's text is whole; what Save makes of a disk that has room, no fuse and is on. No program in sight.
-/
import Derived.Test.YtjdgdmlhipbaaaaDoorZShN
namespace Go.Proofs.YtjdgdmlhipbaaaaDoor
open Go.RowKit Go.Maps
set_option linter.unusedSimpArgs false
set_option linter.unusedVariables false

theorem parts_text {s : Sn} (h : RSn s) : partsB (bodyB s) = (s, ⟨[], false⟩) := by
  have e1 : rnum ⟨bodyB s, false⟩ = (s.i, ⟨numB s.t.toNat ++ (numB s.dt.length ++ s.dt), false⟩) := by
    have := upto_back s.i.toNat (numB s.t.toNat ++ (numB s.dt.length ++ s.dt)) 4611686018427387903 (by have := h.i; omega) (by have := h.i; omega)
    rwa [Int.toNat_of_nonneg h.i.1] at this
  have e2 : rnum ⟨numB s.t.toNat ++ (numB s.dt.length ++ s.dt), false⟩ = (s.t, ⟨numB s.dt.length ++ s.dt, false⟩) := by
    have := upto_back s.t.toNat (numB s.dt.length ++ s.dt) 4611686018427387903 (by have := h.t; omega) (by have := h.t; omega)
    rwa [Int.toNat_of_nonneg h.t.1] at this
  have e3 : rtext ⟨numB s.dt.length ++ s.dt, false⟩ 1048576 = (s.dt, ⟨[], false⟩) := by
    have := text_back s.dt [] 1048576 (by have := h.dt; omega) (by have := h.dt; omega)
    rwa [List.append_nil] at this
  unfold partsB
  simp only [e1, e2, e3]
theorem whole_text {s : Sn} (h : RSn s) : wholeB (fileB s.i.toNat) (textB s) = some s := by
  have hl := (text_len h).2
  have hd : (textB s).drop 4 = bodyB s := by
    unfold textB
    rw [List.drop_left' (be4_len _)]
  unfold wholeB
  rw [if_neg (by omega), hd, parts_text h]
  simp only
  rw [if_pos ⟨by unfold rend; simp, rightSn_iff.2 h, trivial, trivial⟩]
/-! ### a snapshot's file has a right name -/
theorem right_low : ∀ (l : List UInt8) (f : Bool) (n : Nat), (∀ c ∈ l, (97 ≤ c.toNat ∧ c.toNat ≤ 122) ∨ (48 ≤ c.toNat ∧ c.toNat ≤ 57)) → rightR f n l = (decide (1 ≤ n + l.length) && decide (n + l.length ≤ 24)) := by
  intro l
  induction l with
  | nil => intro f n _; rw [rightR_nil]; rfl
  | cons c r ih =>
    intro f n h
    have hc := h c (by simp)
    have hs : sizeOf8 (c :: r) = 1 := by
      unfold sizeOf8
      rw [if_pos (by simp [inB]; omega)]
    rw [rightR_ok f n (c :: r) (by simp) (by rw [hs]; omega), hs]
    have hn : nameC f [c] = true := by
      show (decide (97 ≤ c.toNat ∧ c.toNat ≤ 122) || decide (48 ≤ c.toNat ∧ c.toNat ≤ 57) || decide (c.toNat = 95) || (decide (c.toNat = 45) && !f)) = true
      rcases hc with hc | hc
      · rw [decide_eq_true hc]; rfl
      · rw [decide_eq_true hc]; simp
    simp only [List.take_succ_cons, List.take_zero, List.drop_succ_cons, List.drop_zero]
    rw [hn, ih false (n + 1) (fun x hx => h x (by simp [hx])), Bool.true_and, List.length_cons]
    congr 2
    all_goals first | exact propext ⟨fun _ => by omega, fun _ => by omega⟩ | (rw [show n + 1 + r.length = n + (r.length + 1) by omega]) | skip
theorem fileB_right (n : Nat) : rightL (fileB n) = true := by
  unfold rightL
  rw [right_low _ _ _ (fun c hc => by
    rcases List.mem_cons.1 hc with rfl | hc
    · exact .inl (by decide)
    · exact .inr (digs_range 13 n c hc)), fileB_len]
  decide
end Go.Proofs.YtjdgdmlhipbaaaaDoor
namespace Go.Proofs.YtjdgdmlhipbaaaaDoor
open Go.RowKit Go.Maps
set_option linter.unusedSimpArgs false
set_option linter.unusedVariables false

theorem eget_edel (E : List En) (n m : List UInt8) : eget (edel E n) m = if m = n then none else eget E m := by
  unfold eget edel
  rw [List.find?_filter]
  split
  · rename_i h
    subst h
    rw [List.find?_eq_none]
    intro x _
    simp
  · rename_i h
    congr 1
    funext x
    by_cases hx : x.n = m
    · subst hx; simp [h]
    · simp [hx]
theorem eget_cons (y : En) (r : List En) (m : List UInt8) : eget (y :: r) m = if y.n = m then some y else eget r m := by
  unfold eget
  rw [List.find?_cons]
  by_cases h : y.n = m
  · rw [if_pos h, show (y.n == m) = true by simpa using h]
  · rw [if_neg h, show (y.n == m) = false by simpa using h]
theorem eget_eins (x : En) : ∀ (E : List En) (m : List UInt8), eget E x.n = none → eget (eins x E) m = if m = x.n then some x else eget E m
  | [], m, _ => by
    show eget [x] m = _
    rw [eget_cons]
    by_cases h : m = x.n
    · rw [if_pos h.symm, if_pos h]
    · rw [if_neg (fun e => h e.symm), if_neg h]
  | y :: r, m, h0 => by
    rw [eget_cons] at h0
    by_cases hy : y.n = x.n
    · rw [if_pos hy] at h0; cases h0
    rw [if_neg hy] at h0
    unfold eins
    split
    · rw [eget_cons]
      by_cases h : m = x.n
      · rw [if_pos h.symm, if_pos h]
      · rw [if_neg (fun e => h e.symm), if_neg h]
    · rw [eget_cons, eget_eins x r m h0, eget_cons]
      by_cases hm : y.n = m
      · rw [if_pos hm, if_pos hm, if_neg (fun e => hy (hm.trans e))]
      · rw [if_neg hm, if_neg hm]
theorem eget_emod (E : List En) (n : List UInt8) (g : En → En) (hg : ∀ f, (g f).n = f.n) (m : List UInt8) : eget (emod E n g) m = if m = n then (eget E m).map g else eget E m := by
  unfold eget emod
  rw [List.find?_map]
  have hp : ((fun f : En => f.n == m) ∘ fun f => if (f.n == n) = true then g f else f) = fun f => f.n == m := by
    funext f
    simp only [Function.comp]
    split
    · rw [hg]
    · rfl
  rw [hp]
  cases hf : E.find? (fun f => f.n == m) with
  | none => simp
  | some f =>
    have := List.find?_some hf
    simp only [beq_iff_eq] at this
    simp only [Option.map_some]
    subst this
    by_cases h : f.n = n
    · simp [h]
    · simp [h]
theorem eget_addE (E : List En) (n b m : List UInt8) : eget (addE E n b) m = if m = n then some (match eget E n with | some f => ⟨f.n, f.d, f.l ++ b⟩ | none => ⟨n, [], b⟩) else eget E m := by
  unfold addE
  cases hg : eget E n with
  | some f =>
    simp only
    rw [eget_emod E n (fun f => ⟨f.n, f.d, f.l ++ b⟩) (fun _ => rfl)]
    by_cases h : m = n
    · subst h; rw [if_pos rfl, if_pos rfl, hg]; rfl
    · rw [if_neg h, if_neg h]
  | none =>
    simp only
    rw [eget_eins ⟨n, [], b⟩ E m hg]
/-- The bytes of a file, if it is there. -/
def bytesE (E : List En) (m : List UInt8) : Option (List UInt8) := (eget E m).map fun f => f.d ++ f.l
theorem bytes_edel (E : List En) (n m : List UInt8) : bytesE (edel E n) m = if m = n then none else bytesE E m := by
  unfold bytesE; rw [eget_edel]; split <;> rfl
theorem bytes_addE (E : List En) (n b m : List UInt8) : bytesE (addE E n b) m = if m = n then some ((bytesE E n).getD [] ++ b) else bytesE E m := by
  unfold bytesE
  rw [eget_addE]
  by_cases h : m = n
  · rw [if_pos h, if_pos h]
    cases eget E n <;> simp
  · rw [if_neg h, if_neg h]
theorem bytes_sync (E : List En) (n m : List UInt8) : bytesE (emod E n fun f => ⟨f.n, f.d ++ f.l, []⟩) m = bytesE E m := by
  unfold bytesE
  rw [eget_emod E n (fun f => ⟨f.n, f.d ++ f.l, []⟩) (fun _ => rfl)]
  split
  · cases eget E m <;> simp
  · rfl
end Go.Proofs.YtjdgdmlhipbaaaaDoor
namespace Go.Proofs.YtjdgdmlhipbaaaaDoor
open Go.RowKit Go.Maps
set_option linter.unusedSimpArgs false
set_option linter.unusedVariables false

theorem readS_bytes {s : St} (ho : s.off = false) (f : List UInt8) : readS s f = match bytesE s.E f with | none => ([], 8) | some b => (b, 0) := by
  unfold readS bytesE
  rw [ho]
  simp only [Bool.false_eq_true, if_false]
  cases eget s.E f <;> rfl
def rdB (E : List En) (f : List UInt8) : Sn × Bool := match bytesE E f with
  | none => (sn0, false)
  | some b => match wholeB f b with | some x => (x, true) | none => (sn0, false)
theorem rdS_bytes {s : St} (ho : s.off = false) (f : List UInt8) : rdS s f = rdB s.E f := by
  unfold rdS rdB
  rw [readS_bytes ho]
  cases bytesE s.E f with
  | none => simp
  | some b => simp only [if_true]; cases wholeB f b <;> rfl
theorem burn_still {s : St} (ho : s.off = false) (hf : s.fuse = -1) : s.burn = s := by
  unfold St.burn
  rw [ho, hf]
  cases s
  simp at ho hf
  simp [ho, hf]
theorem onFile_still {s : St} (ho : s.off = false) (hf : s.fuse = -1) (n : List UInt8) (g : En → List En) : onFile s n g = match eget s.E n with | none => (8, s) | some f => (0, ⟨g f, s.room, -1, false⟩) := by
  unfold onFile
  rw [burn_still ho hf, ho, hf]
  simp only [Bool.false_eq_true, if_false]
  cases eget s.E n <;> rfl
theorem append_still {s : St} (ho : s.off = false) (hf : s.fuse = -1) {n : List UInt8} (hn : rightL n = true) (b : List UInt8) : appendS s n b = if (usedE s.E : Int) + b.length > s.room then (6, s) else (0, ⟨addE s.E n b, s.room, -1, false⟩) := by
  unfold appendS
  rw [burn_still ho hf, ho, hf, hn]
  simp
theorem ris_edel {E : List En} (h : ERis E) (n : List UInt8) : ERis (edel E n) := List.Pairwise.sublist List.filter_sublist h
theorem edel_none {E : List En} {n : List UInt8} (h : eget E n = none) : edel E n = E := by
  unfold edel
  refine List.filter_eq_self.2 fun f hf => ?_
  unfold eget at h
  have := List.find?_eq_none.1 h f hf
  simpa using this
/-- What stands behind a Save that went well. -/
structure Put (E E' : List En) (f t : List UInt8) : Prop where
  bytes : ∀ m, bytesE E' m = if m = f then some t else bytesE E m
  used : usedE E' ≤ usedE E + t.length
  len : E'.length ≤ E.length + 1
theorem saveT_still {s : St} (ho : s.off = false) (hf : s.fuse = -1) (hr : ERis s.E) {f : List UInt8} (hn : rightL f = true) (t : List UInt8) (hroom : (usedE s.E : Int) + t.length ≤ s.room) :
    ∃ E', saveT s f t = (0, ⟨E', s.room, -1, false⟩) ∧ Put s.E E' f t := by
  have h1 : removeS s f = (if eget s.E f = none then 8 else 0, ⟨edel s.E f, s.room, -1, false⟩) := by
    unfold removeS
    rw [onFile_still ho hf]
    cases hg : eget s.E f with
    | none =>
      rw [edel_none hg]
      cases s
      simp at ho hf
      simp [ho, hf]
    | some x => simp
  have hu := used_edel s.E f
  have hg : eget (edel s.E f) f = none := by rw [eget_edel, if_pos rfl]
  have h2 : appendS ⟨edel s.E f, s.room, -1, false⟩ f t = (0, ⟨addE (edel s.E f) f t, s.room, -1, false⟩) := by
    rw [append_still rfl rfl hn, if_neg (by simp only; omega)]
  have h3 : eget (addE (edel s.E f) f t) f = some ⟨f, [], t⟩ := by rw [eget_addE, if_pos rfl, hg]
  have h4 : syncS ⟨addE (edel s.E f) f t, s.room, -1, false⟩ f = (0, ⟨emod (addE (edel s.E f) f t) f (fun f => ⟨f.n, f.d ++ f.l, []⟩), s.room, -1, false⟩) := by
    unfold syncS
    rw [onFile_still rfl rfl]
    simp only [h3]
  refine ⟨emod (addE (edel s.E f) f t) f (fun f => ⟨f.n, f.d ++ f.l, []⟩), ?_, ⟨fun m => ?_, ?_, ?_⟩⟩
  · unfold saveT
    rw [h1]
    simp only
    rw [if_neg (by split <;> simp), h2]
    simp only
    rw [if_neg (by simp), h4]
  · rw [bytes_sync, bytes_addE]
    by_cases h : m = f
    · rw [if_pos h, if_pos h, bytes_edel, if_pos rfl]; rfl
    · rw [if_neg h, if_neg h, bytes_edel, if_neg h]
  · refine Nat.le_trans (used_emod _ _ _ fun f => by simp) ?_
    rw [used_add (ris_edel hr f)]
    omega
  · have := len_add (edel s.E f) f t
    have h5 : (edel s.E f).length ≤ s.E.length := List.length_filter_le _ _
    simp [emod]
    omega
theorem save_still {s : St} (ho : s.off = false) (hf : s.fuse = -1) (hr : ERis s.E) {x : Sn} (hx : RSn x) (hroom : (usedE s.E : Int) + (textB x).length ≤ s.room) :
    ∃ E', saveS s x = (0, ⟨E', s.room, -1, false⟩) ∧ Put s.E E' (fileB x.i.toNat) (textB x) := by
  unfold saveS
  rw [if_neg (by rw [rightSn_iff.2 hx]; simp)]
  by_cases h : rdS s (fileB x.i.toNat) = (x, true)
  · rw [if_pos h]
    have h1 := rdS_right (s := s) (f := fileB x.i.toNat) (by rw [h])
    rw [h] at h1
    refine ⟨s.E, by rw [← ho, ← hf], ⟨fun m => ?_, by omega, by omega⟩⟩
    by_cases hm : m = fileB x.i.toNat
    · rw [if_pos hm, hm]
      have h2 := h1.2.2
      rw [readS_bytes ho] at h2
      cases hb : bytesE s.E (fileB x.i.toNat) with
      | none => rw [hb] at h2; simp at h2
      | some b => rw [hb] at h2; simp only at h2; rw [h2.2]
    · rw [if_neg hm]
  · rw [if_neg h]
    exact saveT_still ho hf hr (fileB_right _) (textB x) hroom
end Go.Proofs.YtjdgdmlhipbaaaaDoor
namespace Go.Proofs.YtjdgdmlhipbaaaaDoor
open Go.RowKit Go.Maps
set_option linter.unusedSimpArgs false
set_option linter.unusedVariables false

theorem ris_remove {s : St} (h : ERis s.E) (f : List UInt8) : ERis (removeS s f).2.E := by
  unfold removeS onFile
  split
  · exact h
  · split
    · exact h
    · split
      · exact h
      · exact ris_edel h f
theorem ok_save {s : St} {k : Nat} (h : Ok6 s k) (hr : ERis s.E) (x : Sn) (hk : k < 1099511627776) : Ok6 (saveS s x).2 (k + 1) := by
  have hf : (fileB x.i.toNat).length ≤ 1099511627776 := by rw [fileB_len]; omega
  unfold saveS
  split
  · exact ok_more h
  · split
    · exact ok_more h
    · generalize fileB x.i.toNat = f at hf
      have h1 := ok_remove h f
      have h2 := ok_append h1 (ris_remove hr f) f (textB x) hf hk
      unfold saveT
      split
      · exact ok_more h1
      · split
        · exact h2
        · exact ok_sync h2 f
theorem ok_cleanL (x : Sn) (t : Bool) {k : Nat} : ∀ (l : List (List UInt8)) (s : St), Ok6 s k → Ok6 (cleanL x t l s).2 k
  | [], s, h => h
  | f :: r, s, h => by
    unfold cleanL
    split
    · exact ok_cleanL x t r s h
    · split
      · exact ok_remove h f
      · exact ok_cleanL x t r _ (ok_remove h f)
theorem ok_clean {s : St} {k : Nat} (h : Ok6 s k) : Ok6 (cleanS s).2 k := by
  unfold cleanS
  split
  · exact h
  · exact ok_cleanL _ _ _ _ h
end Go.Proofs.YtjdgdmlhipbaaaaDoor
namespace Go.Proofs.YtjdgdmlhipbaaaaDoor
open Go.RowKit Go.Maps
set_option linter.unusedSimpArgs false
set_option linter.unusedVariables false

theorem fold_best (s : St) (x : Sn) : ∀ (l : List (List UInt8)) (a : Sn × Bool), (∀ f ∈ l, namedB f = true → (rdS s f).2 = true → (rdS s f).1.i < x.i ∨ (rdS s f).1 = x) → (a.2 = true → a.1.i < x.i ∨ a.1 = x) →
    ((∃ f ∈ l, namedB f = true ∧ rdS s f = (x, true)) ∨ a = (x, true)) → l.foldl (loadStep s) a = (x, true) := by
  intro l
  induction l with
  | nil =>
    intro a _ _ h
    rcases h with ⟨f, hf, _⟩ | h
    · cases hf
    · exact h
  | cons f r ih =>
    intro a h1 h2 h3
    rw [List.foldl_cons]
    refine ih _ (fun g hg => h1 g (by simp [hg])) ?_ ?_
    · unfold loadStep
      split
      · rename_i hc
        exact fun _ => h1 f (by simp) hc.1 hc.2.1
      · exact h2
    · rcases h3 with ⟨g, hg, hn, hx⟩ | h3
      · rcases List.mem_cons.1 hg with rfl | hg
        · right
          unfold loadStep
          split
          · rw [hx]
          · rename_i hc
            rw [hn, hx] at hc
            obtain ⟨y, t⟩ := a
            cases t with
            | false => simp at hc
            | true =>
              simp only [true_and, Bool.true_eq_false, false_or] at hc
              rcases h2 rfl with h4 | h4
              · exact absurd h4 hc
              · simp only at h4; rw [h4]
        · exact .inl ⟨g, hg, hn, hx⟩
      · right
        subst h3
        unfold loadStep
        split
        · rename_i hc
          rcases h1 f (by simp) hc.1 hc.2.1 with h4 | h4
          · rcases hc.2.2 with h5 | h5
            · cases h5
            · simp only at h5; omega
          · rw [h4]
        · rfl
theorem fold_none (s : St) : ∀ (l : List (List UInt8)) (a : Sn × Bool), (∀ f ∈ l, ¬ (namedB f = true ∧ (rdS s f).2 = true)) → l.foldl (loadStep s) a = a := by
  intro l
  induction l with
  | nil => intro a _; rfl
  | cons f r ih =>
    intro a h
    rw [List.foldl_cons, ih _ fun g hg => h g (by simp [hg])]
    unfold loadStep
    rw [if_neg fun hc => h f (by simp) ⟨hc.1, hc.2.1⟩]
end Go.Proofs.YtjdgdmlhipbaaaaDoor
namespace Go.Proofs.YtjdgdmlhipbaaaaDoor
open Go.RowKit Go.Maps
set_option linter.unusedSimpArgs false
set_option linter.unusedVariables false

def skipB (x : Sn) (t : Bool) (f : List UInt8) : Prop := namedB f = false ∨ (t = true ∧ f = fileB x.i.toNat)
instance (x : Sn) (t : Bool) (f : List UInt8) : Decidable (skipB x t f) := by unfold skipB; infer_instance
theorem cleanL_still (x : Sn) (t : Bool) : ∀ (l : List (List UInt8)) (s : St), s.off = false → s.fuse = -1 → l.Nodup → (∀ f ∈ l, eget s.E f ≠ none) →
    ∃ E', cleanL x t l s = (0, ⟨E', s.room, -1, false⟩) ∧ E' = s.E.filter fun e => !(decide (e.n ∈ l) && !decide (skipB x t e.n))
  | [], s, ho, hf, _, _ => ⟨s.E, by unfold cleanL; cases s; simp at ho hf; simp [ho, hf], (List.filter_eq_self.2 fun e _ => by simp).symm⟩
  | f :: r, s, ho, hf, hn, hp => by
    obtain ⟨hn1, hn2⟩ := List.nodup_cons.1 hn
    unfold cleanL
    by_cases hs : skipB x t f
    · rw [if_pos (show namedB f = false ∨ t = true ∧ f = fileB x.i.toNat from hs)]
      obtain ⟨E', h1, h2⟩ := cleanL_still x t r s ho hf hn2 fun g hg => hp g (by simp [hg])
      refine ⟨E', h1, ?_⟩
      rw [h2]
      congr 1
      funext e
      by_cases he : e.n = f
      · rw [he]; simp [hs]
      · simp [he]
    · rw [if_neg (show ¬ (namedB f = false ∨ t = true ∧ f = fileB x.i.toNat) from hs)]
      obtain ⟨y, hy⟩ := Option.ne_none_iff_exists'.1 (hp f (by simp))
      have h1 : removeS s f = (0, ⟨edel s.E f, s.room, -1, false⟩) := by
        unfold removeS
        rw [onFile_still ho hf]
        simp only [hy]
      rw [h1, if_neg (by simp)]
      obtain ⟨E', h3, h4⟩ := cleanL_still x t r ⟨edel s.E f, s.room, -1, false⟩ rfl rfl hn2 fun g hg => by
        show eget (edel s.E f) g ≠ none
        have hgf : ¬ g = f := by rintro rfl; exact hn1 hg
        rw [eget_edel, if_neg hgf]
        exact hp g (by simp [hg])
      refine ⟨E', h3, ?_⟩
      rw [h4]
      show (edel s.E f).filter _ = _
      unfold edel
      rw [List.filter_filter]
      congr 1
      funext e
      by_cases he : e.n = f
      · rw [he]; simp [hs]
      · simp [he]
end Go.Proofs.YtjdgdmlhipbaaaaDoor
namespace Go.Proofs.YtjdgdmlhipbaaaaDoor
open Go.RowKit Go.Maps
set_option linter.unusedSimpArgs false
set_option linter.unusedVariables false

/-- A disk with one snapshot. -/
def oneS (room : Int) (x : Sn) : St := ⟨[⟨fileB x.i.toNat, textB x, []⟩], room, -1, false⟩
theorem save_new {room : Int} {x : Sn} (hx : RSn x) (hl : ((textB x).length : Int) ≤ room) : saveS (newS room) x = (0, oneS room x) := by
  unfold saveS
  rw [if_neg (by rw [rightSn_iff.2 hx]; simp), if_neg (by
    rw [rdS_bytes (by rfl)]
    unfold rdB
    rw [show bytesE (newS room).E (fileB x.i.toNat) = none from rfl]
    simp)]
  have h1 : removeS (newS room) (fileB x.i.toNat) = (8, newS room) := by
    unfold removeS
    rw [onFile_still rfl rfl]
    rfl
  have h2 : appendS (newS room) (fileB x.i.toNat) (textB x) = (0, ⟨[⟨fileB x.i.toNat, [], textB x⟩], room, -1, false⟩) := by
    rw [append_still rfl rfl (fileB_right _), if_neg (by show ¬ ((0 : Nat) : Int) + _ > room; omega)]
    rfl
  unfold saveT
  rw [h1]
  simp only
  rw [if_neg (by simp), h2]
  simp only
  rw [if_neg (by simp)]
  unfold syncS
  rw [onFile_still rfl rfl]
  have h3 : eget [(⟨fileB x.i.toNat, [], textB x⟩ : En)] (fileB x.i.toNat) = some ⟨fileB x.i.toNat, [], textB x⟩ := by rw [eget_cons, if_pos rfl]
  simp only [h3]
  unfold emod oneS
  simp
theorem one_rd (room : Int) {x : Sn} (hx : RSn x) : rdS (oneS room x) (fileB x.i.toNat) = (x, true) := by
  rw [rdS_bytes rfl]
  unfold rdB
  have : bytesE (oneS room x).E (fileB x.i.toNat) = some (textB x) := by
    unfold bytesE oneS
    rw [eget_cons, if_pos rfl]
    simp
  rw [this]
  simp only [whole_text hx]
theorem one_load (room : Int) {x : Sn} (hx : RSn x) : loadR (oneS room x) = (x, true, 0) := by
  have h : loadS (oneS room x) = (x, true) := by
    unfold loadS
    rw [show namesS (oneS room x) = [fileB x.i.toNat] from rfl, List.foldl_cons, List.foldl_nil]
    unfold loadStep
    rw [one_rd room hx, fileB_named]
    simp
  unfold loadR
  rw [h]
  rfl
theorem one_crash (room : Int) (x : Sn) (keep : List Int) : crashS (oneS room x) keep = oneS room x := rfl
end Go.Proofs.YtjdgdmlhipbaaaaDoor
namespace Go.Proofs.YtjdgdmlhipbaaaaDoor
open Go.RowKit Go.Maps
set_option linter.unusedSimpArgs false
set_option linter.unusedVariables false

theorem parts_more {s : Sn} (h : RSn s) (rest : List UInt8) : partsB (bodyB s ++ rest) = (s, ⟨rest, false⟩) := by
  have e1 : rnum ⟨bodyB s ++ rest, false⟩ = (s.i, ⟨numB s.t.toNat ++ (numB s.dt.length ++ s.dt ++ rest), false⟩) := by
    have := upto_back s.i.toNat (numB s.t.toNat ++ (numB s.dt.length ++ s.dt ++ rest)) 4611686018427387903 (by have := h.i; omega) (by have := h.i; omega)
    rw [Int.toNat_of_nonneg h.i.1] at this
    rw [← this]
    simp [bodyB, rnum]
  have e2 : rnum ⟨numB s.t.toNat ++ (numB s.dt.length ++ s.dt ++ rest), false⟩ = (s.t, ⟨numB s.dt.length ++ s.dt ++ rest, false⟩) := by
    have := upto_back s.t.toNat (numB s.dt.length ++ s.dt ++ rest) 4611686018427387903 (by have := h.t; omega) (by have := h.t; omega)
    rwa [Int.toNat_of_nonneg h.t.1] at this
  have e3 : rtext ⟨numB s.dt.length ++ s.dt ++ rest, false⟩ 1048576 = (s.dt, ⟨rest, false⟩) :=
    text_back s.dt rest 1048576 (by have := h.dt; omega) (by have := h.dt; omega)
  unfold partsB
  simp only [e1, e2, e3]
theorem body_inj {x y : Sn} (hx : RSn x) (hy : RSn y) (h : bodyB x = bodyB y) : x = y := by
  have h1 := parts_text hx
  rw [h, parts_text hy] at h1
  exact (Prod.mk.inj h1).1.symm
theorem text_drop (x : Sn) : (textB x).drop 4 = bodyB x := by
  unfold textB
  rw [List.drop_left' (be4_len _)]
theorem text_take (x : Sn) : (textB x).take 4 = be4 (crcL (bodyB x)) := by
  unfold textB
  rw [List.take_left' (be4_len _)]
theorem whole_cut {s : Sn} (hs : RSn s) (f : List UInt8) {k : Nat} (hk : k < (textB s).length) : wholeB f ((textB s).take k) = none := by
  cases h : wholeB f ((textB s).take k) with
  | none => rfl
  | some y =>
    exfalso
    obtain ⟨hy, _, he⟩ := whole_some h
    have h4 : 4 ≤ (textB y).length := by have := (text_len hy).2; omega
    have h1 : textB s = textB y ++ (textB s).drop k := by rw [← he, List.take_append_drop]
    have h2 : bodyB s = bodyB y ++ (textB s).drop k := by
      rw [← text_drop s, ← text_drop y]
      conv => lhs; rw [h1]
      rw [List.drop_append_of_le_length h4]
    have h3 := parts_text hs
    rw [h2, parts_more hy] at h3
    have h5 : (textB s).drop k = [] := congrArg RS.s (Prod.mk.inj h3).2
    have h6 := congrArg List.length h5
    simp at h6
    omega
theorem lob_eq {x y : Wd} (h : lob x = lob y) : x.toNat % 256 = y.toNat % 256 := by
  have := congrArg UInt8.toNat h
  simpa [lob, UInt8.toNat_ofNat'] using this
theorem shr_nat (x : Wd) (n : Nat) : (wshr x n).toNat = x.toNat / 2 ^ n := by simp [wshr, Nat.shiftRight_eq_div_pow]
theorem be4_inj {x y : Wd} (h : be4 x = be4 y) : x = y := by
  simp only [be4, List.cons.injEq, and_true] at h
  obtain ⟨h1, h2, h3, h4⟩ := h
  have e1 := lob_eq h1
  have e2 := lob_eq h2
  have e3 := lob_eq h3
  have e4 := lob_eq h4
  rw [shr_nat, shr_nat] at e1 e2 e3
  have bx := x.isLt
  have bY := y.isLt
  apply BitVec.eq_of_toNat_eq
  omega
theorem whole_turned {s : Sn} (hs : RSn s) (f : List UInt8) {a rest : List UInt8} {c d : UInt8} (he : textB s = a ++ c :: rest) (hcd : c ≠ d) : wholeB f (a ++ d :: rest) = none := by
  cases h : wholeB f (a ++ d :: rest) with
  | none => rfl
  | some y =>
    exfalso
    obtain ⟨hy, _, ht⟩ := whole_some h
    by_cases ha : a.length < 4
    · have h1 : bodyB s = bodyB y := by
        have key : ∀ z : UInt8, (a ++ z :: rest).drop 4 = rest.drop (4 - (a.length + 1)) := fun z => by
          rw [show a ++ z :: rest = (a ++ [z]) ++ rest by simp, List.drop_append, List.drop_eq_nil_of_le (by simp; omega)]
          simp
        rw [← text_drop s, ← text_drop y, he, ← ht, key c, key d]
      have h2 := body_inj hs hy h1
      rw [← h2, he] at ht
      have := (List.append_cancel_left ht)
      injection this with h3
      exact hcd h3.symm
    · have ha' : 4 ≤ a.length := by omega
      have h1 : bodyB s = a.drop 4 ++ c :: rest := by rw [← text_drop s, he, List.drop_append_of_le_length ha']
      have h2 : bodyB y = a.drop 4 ++ d :: rest := by rw [← text_drop y, ← ht, List.drop_append_of_le_length ha']
      have h3 : be4 (crcL (bodyB s)) = be4 (crcL (bodyB y)) := by
        rw [← text_take, ← text_take, he, ← ht, List.take_append_of_le_length ha', List.take_append_of_le_length ha']
      have h4 := be4_inj h3
      rw [h1, h2] at h4
      exact crc_turned _ _ hcd h4
/-! ### the states of ShotTorn -/
/-- One file, with what stands in it, and what is late. -/
def tornS (f a l : List UInt8) : St := ⟨[⟨f, a, l⟩], 8388608, -1, false⟩
theorem torn_cut {f t : List UInt8} {k : Nat} (hk : k ≤ t.length) : cutS (tornS f t []) f k = (0, tornS f (t.take k) []) := by
  unfold cutS tornS
  have h : eget [(⟨f, t, []⟩ : En)] f = some ⟨f, t, []⟩ := by rw [eget_cons, if_pos rfl]
  simp only [Bool.false_eq_true, if_false, h]
  rw [if_neg (by simp; omega)]
  simp only [St.burn]
  simp [emod, cutF, hk]
theorem torn_append {f a b : List UInt8} (hf : rightL f = true) (h : (a.length + b.length : Nat) ≤ 8388608) : appendS (tornS f a []) f b = (0, tornS f a b) := by
  rw [append_still rfl rfl hf, if_neg (by
    show ¬ ((usedE [(⟨f, a, []⟩ : En)] : Int) + b.length > 8388608)
    simp [usedE]; omega)]
  have h : eget [(⟨f, a, []⟩ : En)] f = some ⟨f, a, []⟩ := by rw [eget_cons, if_pos rfl]
  simp [tornS, addE, h, emod]
theorem torn_names (f a l : List UInt8) : namesS (tornS f a l) = [f] := rfl
theorem torn_read (f a l : List UInt8) : readS (tornS f a l) f = (a ++ l, 0) := by
  unfold readS tornS
  have h : eget [(⟨f, a, l⟩ : En)] f = some ⟨f, a, l⟩ := by rw [eget_cons, if_pos rfl]
  simp [h]
theorem torn_none {f a l : List UInt8} (h : wholeB f (a ++ l) = none) : loadR (tornS f a l) = (sn0, false, 0) := by
  have h1 : rdS (tornS f a l) f = (sn0, false) := by
    rw [rdS_bytes rfl]
    unfold rdB bytesE tornS
    rw [eget_cons, if_pos rfl]
    simp [h]
  have h2 : loadS (tornS f a l) = (sn0, false) := by
    unfold loadS
    rw [torn_names, List.foldl_cons, List.foldl_nil]
    unfold loadStep
    rw [h1]
    simp
  unfold loadR
  rw [h2]
  rfl
theorem torn_one (x : Sn) : oneS 8388608 x = tornS (fileB x.i.toNat) (textB x) [] := rfl
/-- Over a file that is whole no more, the snapshot is put as on a new disk. -/
theorem torn_save {x : Sn} (hx : RSn x) {a l : List UInt8} (h : wholeB (fileB x.i.toNat) (a ++ l) = none) : saveS (tornS (fileB x.i.toNat) a l) x = (0, oneS 8388608 x) := by
  have h1 : rdS (tornS (fileB x.i.toNat) a l) (fileB x.i.toNat) = (sn0, false) := by
    rw [rdS_bytes rfl]
    unfold rdB bytesE tornS
    rw [eget_cons, if_pos rfl]
    simp [h]
  have hl := (text_len hx).1
  unfold saveS
  rw [if_neg (by rw [rightSn_iff.2 hx]; simp), h1, if_neg (by simp)]
  have e1 : removeS (tornS (fileB x.i.toNat) a l) (fileB x.i.toNat) = (0, ⟨[], 8388608, -1, false⟩) := by
    unfold removeS
    rw [onFile_still rfl rfl]
    have h : eget (tornS (fileB x.i.toNat) a l).E (fileB x.i.toNat) = some ⟨fileB x.i.toNat, a, l⟩ := by unfold tornS; rw [eget_cons, if_pos rfl]
    simp only [h]
    simp [edel, tornS]
  have e2 : appendS ⟨[], 8388608, -1, false⟩ (fileB x.i.toNat) (textB x) = (0, ⟨[⟨fileB x.i.toNat, [], textB x⟩], 8388608, -1, false⟩) := by
    rw [append_still rfl rfl (fileB_right _), if_neg (by show ¬ ((0 : Nat) : Int) + _ > (8388608 : Int); omega)]
    rfl
  unfold saveT
  rw [e1]
  simp only
  rw [if_neg (by simp), e2]
  simp only
  rw [if_neg (by simp)]
  unfold syncS
  rw [onFile_still rfl rfl]
  have h3 : eget [(⟨fileB x.i.toNat, [], textB x⟩ : En)] (fileB x.i.toNat) = some ⟨fileB x.i.toNat, [], textB x⟩ := by rw [eget_cons, if_pos rfl]
  simp only [h3]
  unfold emod oneS
  simp
end Go.Proofs.YtjdgdmlhipbaaaaDoor
namespace Go.Proofs.YtjdgdmlhipbaaaaDoor
open Go.RowKit Go.Maps
set_option linter.unusedSimpArgs false
set_option linter.unusedVariables false

/-- What stands on the disk behind k of them. -/
structure Lst (E : List En) (n k : Nat) (best : Sn) : Prop where
  used : usedE E ≤ 31 * k + 6 * n
  len : E.length ≤ k
  all : ∀ f b, bytesE E f = some b → ∃ x, RSn x ∧ f = fileB x.i.toNat ∧ b = textB x ∧ (x.i < best.i ∨ x = best)
  top : (best = ⟨-1, 0, []⟩) ∨ (RSn best ∧ bytesE E (fileB best.i.toNat) = some (textB best))
theorem lst_nil : Lst [] 0 0 ⟨-1, 0, []⟩ := ⟨by simp [usedE], by simp, by intro f b h; simp [bytesE, eget] at h, .inl rfl⟩
theorem text_len31 {s : Sn} (h : RSn s) : (textB s).length ≤ s.dt.length + 31 := by
  have h1 := numB_len s.i.toNat (by have := h.i; omega)
  have h2 := numB_len s.t.toNat (by have := h.t; omega)
  have h3 := numB_len s.dt.length (by have := h.dt; omega)
  simp only [textB, bodyB, List.length_append, be4_len]
  omega
def bestOf (x best : Sn) : Sn := if best.i ≤ x.i then x else best
theorem Lst.step {E E' : List En} {n k : Nat} {best x : Sn} (h : Lst E n k best) (hx : RSn x) (hp : Put E E' (fileB x.i.toNat) (textB x)) (m : Nat) (hm : x.dt.length ≤ 6 * m) :
    Lst E' (n + m) (k + 1) (bestOf x best) := by
  refine ⟨?_, ?_, ?_, ?_⟩
  · have := hp.used
    have := text_len31 hx
    have := h.used
    omega
  · have := hp.len; have := h.len; omega
  · intro f b hb
    rw [hp.bytes] at hb
    by_cases hf : f = fileB x.i.toNat
    · rw [if_pos hf] at hb
      refine ⟨x, hx, hf, (Option.some.inj hb).symm, ?_⟩
      unfold bestOf
      split
      · exact .inr rfl
      · exact .inl (by omega)
    · rw [if_neg hf] at hb
      obtain ⟨y, hy, e1, e2, e3⟩ := h.all f b hb
      refine ⟨y, hy, e1, e2, ?_⟩
      unfold bestOf
      split
      · rename_i hle
        have hne : y.i ≠ x.i := fun e => hf (by rw [e1, e])
        rcases e3 with e3 | e3
        · exact .inl (by omega)
        · rw [e3] at hne ⊢
          exact .inl (by omega)
      · exact e3
  · right
    unfold bestOf
    split
    · exact ⟨hx, by rw [hp.bytes, if_pos rfl]⟩
    · rename_i hlt
      rcases h.top with e | ⟨h1, h2⟩
      · rw [e] at hlt; exact absurd hx.i.1 (by simp at hlt; omega)
      · refine ⟨h1, ?_⟩
        rw [hp.bytes, if_neg, h2]
        intro e
        have := fileB_inj (by have := h1.i; omega) (by have := hx.i; omega) e
        have := h1.i
        have := hx.i
        omega
theorem Lst.more {E : List En} {n k : Nat} {best : Sn} (h : Lst E n k best) (m : Nat) : Lst E (n + m) (k + 1) best :=
  ⟨by have := h.used; omega, by have := h.len; omega, h.all, h.top⟩
theorem Lst.room {E : List En} {n k : Nat} {best x : Sn} (h : Lst E n k best) (hk : k < 20) (hn : n ≤ 200000) (hx : RSn x) : ((usedE E : Int) + (textB x).length) ≤ 8388608 := by
  have := h.used
  have := (text_len hx).1
  omega
def lstS (E : List En) : St := ⟨E, 8388608, -1, false⟩
theorem name_bytes {E : List En} {f : List UInt8} (h : f ∈ E.map En.n) : ∃ b, bytesE E f = some b := by
  obtain ⟨e, he, rfl⟩ := List.mem_map.1 h
  unfold bytesE
  cases hg : eget E e.n with
  | none =>
    unfold eget at hg
    have := List.find?_eq_none.1 hg e he
    simp at this
  | some y => exact ⟨_, rfl⟩
theorem Lst.load {E : List En} {n k : Nat} {best : Sn} (h : Lst E n k best) (hr : ERis E) : loadR (lstS E) = if best.i < 0 then (sn0, false, 0) else (best, true, 0) := by
  have hnm : namesS (lstS E) = E.map En.n := rfl
  have key : ∀ f ∈ E.map En.n, ∃ x, RSn x ∧ f = fileB x.i.toNat ∧ rdS (lstS E) f = (x, true) ∧ (x.i < best.i ∨ x = best) := by
    intro f hf
    obtain ⟨b, hb⟩ := name_bytes hf
    obtain ⟨x, hx, e1, e2, e3⟩ := h.all f b hb
    refine ⟨x, hx, e1, ?_, e3⟩
    rw [rdS_bytes rfl]
    unfold rdB
    rw [show bytesE (lstS E).E f = some b from hb, e1, e2]
    simp only [whole_text hx]
  have hl : loadS (lstS E) = if best.i < 0 then (sn0, false) else (best, true) := by
    unfold loadS
    rw [hnm]
    rcases h.top with e | ⟨h1, h2⟩
    · rw [e, if_pos (by decide)]
      refine fold_none _ _ _ fun f hf => ?_
      obtain ⟨x, hx, _, _, e3⟩ := key f hf
      rw [e] at e3
      have := hx.i
      rcases e3 with e3 | e3
      · simp at e3; omega
      · rw [e3] at this; simp at this
    · rw [if_neg (by have := h1.i; omega)]
      refine fold_best _ best _ _ (fun f hf _ _ => ?_) (by intro hh; cases hh) (.inl ⟨fileB best.i.toNat, ?_, fileB_named _, ?_⟩)
      · obtain ⟨x, _, _, e2, e3⟩ := key f hf
        rw [e2]; exact e3
      · unfold bytesE at h2
        cases hg : eget E (fileB best.i.toNat) with
        | none => rw [hg] at h2; cases h2
        | some y =>
          obtain ⟨hm, hn⟩ := eget_mem hg
          exact List.mem_map.2 ⟨y, hm, hn⟩
      · rw [rdS_bytes rfl]
        unfold rdB
        rw [show bytesE (lstS E).E (fileB best.i.toNat) = some (textB best) from h2]
        simp only [whole_text h1]
  unfold loadR
  rw [hl, show (lstS E).off = false from rfl]
  simp only [Bool.false_eq_true, if_false]
  split <;> rfl
theorem eris_nodup {E : List En} (h : ERis E) : (E.map En.n).Nodup := by
  rw [List.Nodup, List.pairwise_map]
  exact h.imp fun {a b} hab => by have := bb_ne hab; simpa using this
theorem Lst.clean {E : List En} {n k : Nat} {best : Sn} (h : Lst E n k best) (hr : ERis E) (hb : ¬ best.i < 0) : ∃ E', cleanS (lstS E) = (0, lstS E') ∧ E'.length = 1 := by
  have hl := h.load hr
  rw [if_neg hb] at hl
  have hl2 : loadS (lstS E) = (best, true) := by
    unfold loadR at hl
    have h1 : (lstS E).off = false := rfl
    simp only [h1, Bool.false_eq_true, if_false, Prod.mk.injEq] at hl
    exact Prod.ext hl.1 hl.2.1
  obtain ⟨h1, h2⟩ : RSn best ∧ bytesE E (fileB best.i.toNat) = some (textB best) := by
    rcases h.top with e | h2
    · rw [e] at hb; exact absurd (show (-1 : Int) < 0 by decide) hb
    · exact h2
  obtain ⟨E', e1, e2⟩ := cleanL_still best true (namesS (lstS E)) (lstS E) rfl rfl (eris_nodup hr) (fun f hf => by
    obtain ⟨b, hb⟩ := name_bytes hf
    intro hg
    unfold bytesE at hb
    rw [hg] at hb
    cases hb)
  refine ⟨E', ?_, ?_⟩
  · unfold cleanS
    rw [show (lstS E).off = false from rfl, hl2]
    simp only [Bool.false_eq_true, if_false]
    exact e1
  · rw [e2]
    have e3 : (E.filter fun e => !(decide (e.n ∈ namesS (lstS E)) && !decide (skipB best true e.n))) = E.filter fun e => e.n == fileB best.i.toNat := by
      refine List.filter_congr fun e he => ?_
      have hm : e.n ∈ namesS (lstS E) := List.mem_map.2 ⟨e, he, rfl⟩
      obtain ⟨b, hb2⟩ := name_bytes (List.mem_map.2 ⟨e, he, rfl⟩)
      obtain ⟨x, hx, e4, _⟩ := h.all _ _ hb2
      have hnm : namedB e.n = true := by rw [e4]; exact fileB_named _
      have : skipB best true e.n ↔ e.n = fileB best.i.toNat := by
        unfold skipB
        rw [hnm]
        simp
      simp [hm, this]
      by_cases hq : e.n = fileB best.i.toNat <;> simp [hq]
    rw [show (lstS E).E = E from rfl, e3]
    unfold bytesE at h2
    cases hg : eget E (fileB best.i.toNat) with
    | none => rw [hg] at h2; cases h2
    | some y =>
      obtain ⟨hyn, A, B, rfl⟩ := eget_split hg
      obtain ⟨p1, p2, p3⟩ := List.pairwise_append.1 hr
      obtain ⟨p4, p5⟩ := List.pairwise_cons.1 p2
      rw [List.filter_append, List.filter_cons, if_pos (by simp [hyn])]
      rw [List.filter_eq_nil_iff.2 fun z hz => by rw [← hyn, bb_ne (p3 z hz y (by simp))]; simp]
      rw [List.filter_eq_nil_iff.2 fun z hz => by
        have := bb_ne (p4 z hz)
        rw [← hyn]
        simp only [beq_eq_false_iff_ne, ne_eq, beq_iff_eq] at this ⊢
        exact fun e => this e.symm]
      rfl
end Go.Proofs.YtjdgdmlhipbaaaaDoor
namespace Go.Proofs.YtjdgdmlhipbaaaaDoor
open Go.RowKit Go.Maps
set_option linter.unusedSimpArgs false
set_option linter.unusedVariables false

def twoE (o : Bool) (A B : En) : List En := if o then [A, B] else [B, A]
section
variable {o : Bool} {A B : En}
theorem two_a (h : A.n ≠ B.n) : eget (twoE o A B) A.n = some A := by
 unfold twoE
 cases o
 ·rw [if_neg (by simp), eget_cons, if_neg (fun e => h e.symm), eget_cons, if_pos rfl]
 ·rw [if_pos rfl, eget_cons, if_pos rfl]
theorem two_b (h : A.n ≠ B.n) : eget (twoE o A B) B.n = some B := by
 unfold twoE
 cases o
 ·rw [if_neg (by simp), eget_cons, if_pos rfl]
 ·rw [if_pos rfl, eget_cons, if_neg h, eget_cons, if_pos rfl]
theorem two_add (h : A.n ≠ B.n) (t : List UInt8) : ∃ o, addE [A] B.n t = twoE o A ⟨B.n, [], t⟩ := by
 have hg : eget [A] B.n = none := by rw [eget_cons, if_neg h]; rfl
 unfold addE
 rw [hg]
 simp only [eins]
 split
 ·exact ⟨false, rfl⟩
 ·exact ⟨true, rfl⟩
theorem two_mod (h : A.n ≠ B.n) (g : En → En) : emod (twoE o A B) B.n g = twoE o A (g B) := by
 unfold twoE emod
 cases o <;> simp [h]
theorem two_del (h : A.n ≠ B.n) : edel (twoE o A B) A.n = [B] := by
 unfold twoE edel
 have h' : B.n ≠ A.n := fun e => h e.symm
 cases o <;> simp [h']
theorem two_mem (f : List UInt8) : f ∈ (twoE o A B).map En.n ↔ f = A.n ∨ f = B.n := by
 unfold twoE
 cases o <;> simp [or_comm]
theorem two_crash (hA : A.l = []) (keep : List Int) : ∃ j, (j = 0 ∨ j = 1 ∨ True) ∧ crashE keep 0 (twoE o A B) = twoE o A (crashF keep 0 B) := by
 refine ⟨0, .inl rfl, ?_⟩
 unfold twoE
 cases o
 ·simp only [Bool.false_eq_true, if_false, crashE, crashF, hA, if_true]
 ·simp only [if_true, crashE, crashF, hA]
end
/-- Two files: the elder one is whole; the newer one may be. -/
theorem two_load {a b : Sn} (ha : RSn a) (hb : RSn b) (hlt : a.i < b.i) (o : Bool) (d l : List UInt8) (r fu : Int) :
  (d ++ l = textB b → loadR ⟨twoE o ⟨fileB a.i.toNat, textB a, []⟩ ⟨fileB b.i.toNat, d, l⟩, r, fu, false⟩ = (b, true, 0)) ∧
  (wholeB (fileB b.i.toNat) (d ++ l) = none → loadR ⟨twoE o ⟨fileB a.i.toNat, textB a, []⟩ ⟨fileB b.i.toNat, d, l⟩, r, fu, false⟩ = (a, true, 0)) := by
 have hne : fileB a.i.toNat ≠ fileB b.i.toNat := fun e => by
  have := fileB_inj (by have := ha.i; omega) (by have := hb.i; omega) e
  have := ha.i; have := hb.i; omega
 obtain ⟨A, hA⟩ : ∃ A : En, A = ⟨fileB a.i.toNat, textB a, []⟩ := ⟨_, rfl⟩
 obtain ⟨B, hB⟩ : ∃ B : En, B = ⟨fileB b.i.toNat, d, l⟩ := ⟨_, rfl⟩
 have hn : A.n ≠ B.n := by rw [hA, hB]; exact hne
 have hAn : A.n = fileB a.i.toNat := by rw [hA]
 have hBn : B.n = fileB b.i.toNat := by rw [hB]
 rw [← hA, ← hB]
 have ra : rdS ⟨twoE o A B, r, fu, false⟩ A.n = (a, true) := by
  rw [rdS_bytes rfl]
  unfold rdB bytesE
  rw [two_a hn, hA]
  simp only [Option.map_some, List.append_nil, whole_text ha]
 have rb : rdS ⟨twoE o A B, r, fu, false⟩ B.n = match wholeB (fileB b.i.toNat) (d ++ l) with | some x => (x, true) | none => (sn0, false) := by
  rw [rdS_bytes rfl]
  unfold rdB bytesE
  rw [two_b hn, hB]
  simp only [Option.map_some]
  all_goals (cases wholeB (fileB b.i.toNat) (d ++ l) <;> rfl)
 have hnm : namesS ⟨twoE o A B, r, fu, false⟩ = (twoE o A B).map En.n := rfl
 constructor
 ·intro ht
  rw [ht, whole_text hb] at rb
  simp only at rb
  have : loadS ⟨twoE o A B, r, fu, false⟩ = (b, true) := by
   unfold loadS
   rw [hnm]
   refine fold_best _ b _ _ (fun f hf _ _ => ?_) (by intro hh; cases hh) (.inl ⟨B.n, (two_mem _).2 (.inr rfl), by rw [hBn]; exact fileB_named _, rb⟩)
   rcases (two_mem f).1 hf with rfl | rfl
   ·rw [ra]; exact .inl hlt
   ·rw [rb]; exact .inr rfl
  unfold loadR
  rw [this]
  rfl
 ·intro ht
  rw [ht] at rb
  simp only at rb
  have : loadS ⟨twoE o A B, r, fu, false⟩ = (a, true) := by
   unfold loadS
   rw [hnm]
   refine fold_best _ a _ _ (fun f hf _ h2 => ?_) (by intro hh; cases hh) (.inl ⟨A.n, (two_mem _).2 (.inl rfl), by rw [hAn]; exact fileB_named _, ra⟩)
   rcases (two_mem f).1 hf with rfl | rfl
   ·rw [ra]; exact .inr rfl
   ·rw [rb] at h2; cases h2
  unfold loadR
  rw [this]
  rfl
theorem crash_late (keep : List Int) (f t : List UInt8) (ht : t ≠ []) : ∃ k, crashF keep 0 ⟨f, [], t⟩ = ⟨f, t.take k, []⟩ := by
 unfold crashF
 rw [if_neg ht]
 split
 ·exact ⟨0, by simp⟩
 ·exact ⟨_, rfl⟩
/-- What ShotCrash asks of the states. -/
def CrAsk (a b : Sn) (n : Int) (keep : List Int) : Prop :=
 let s0 := fuseS (oneS 8388608 a) n
 let r1 := saveS s0 b
 let r2 := cleanS r1.2
 let s3 := crashS r2.2 keep
 (loadR s3 = (b, true, 0) ∨ loadR s3 = (a, true, 0) ∧ r1.1 ≠ 0) ∧ (r1.1 = 0 → r2.1 = 0 → (namesS s3).length = 1)
theorem crash_asked {a b : Sn} (ha : RSn a) (hb : RSn b) (hlt : a.i < b.i) (n : Nat) (keep : List Int) : CrAsk a b n keep := by
 have hne : fileB a.i.toNat ≠ fileB b.i.toNat := fun e => by
  have := fileB_inj (by have := ha.i; omega) (by have := hb.i; omega) e
  have := ha.i; have := hb.i; omega
 obtain ⟨A, hA⟩ : ∃ A : En, A = ⟨fileB a.i.toNat, textB a, []⟩ := ⟨_, rfl⟩
 have hAn : A.n = fileB a.i.toNat := by rw [hA]
 have hAl : A.l = [] := by rw [hA]
 have hAu : usedE [A] = (textB a).length := by rw [hA]; simp [usedE]
 have tl := text_len ha
 have tlb := text_len hb
 have s0 : fuseS (oneS 8388608 a) n = ⟨[A], 8388608, n, false⟩ := by
  unfold fuseS oneS
  rw [← hA]
  congr 1
  omega
 obtain ⟨fb, hfb⟩ : ∃ fb, fb = fileB b.i.toNat := ⟨_, rfl⟩
 have hnb : A.n ≠ fb := by rw [hAn, hfb]; exact hne
 have hg : eget [A] fb = none := by rw [eget_cons, if_neg hnb]; rfl
 have hrb : rdS ⟨[A], 8388608, n, false⟩ fb = (sn0, false) := by
  rw [rdS_bytes rfl]
  unfold rdB bytesE
  rw [hg]
  rfl
 have hs : ∀ st, saveT st fb (textB b) = saveT st fb (textB b) := fun _ => rfl
 have e1 : removeS ⟨[A], 8388608, n, false⟩ fb = (8, ⟨[A], 8388608, n, false⟩) := by
  unfold removeS onFile
  simp only [Bool.false_eq_true, if_false, hg]
 have hright : rightL fb = true := by rw [hfb]; exact fileB_right _
 have hroom : ¬ ((usedE [A] : Int) + (textB b).length > 8388608) := by rw [hAu]; omega
 obtain ⟨o, hadd⟩ := two_add (A := A) (B := ⟨fb, [], textB b⟩) hnb (textB b)
 simp only at hadd
 have e0 : saveS ⟨[A], 8388608, n, false⟩ b = saveT ⟨[A], 8388608, n, false⟩ fb (textB b) := by
  unfold saveS
  rw [← hfb, if_neg (by rw [rightSn_iff.2 hb]; simp), hrb, if_neg (by simp)]
 have htn : textB b ≠ [] := by intro e; rw [e] at tlb; simp at tlb
 unfold CrAsk
 simp only
 rw [s0, e0]
 unfold saveT
 rw [e1]
 simp only
 rw [if_neg (by simp)]
 by_cases n0 : n = 0
 ·subst n0
  have e2 : appendS ⟨[A], 8388608, ((0 : Nat) : Int), false⟩ fb (textB b) = (7, ⟨[A], 8388608, 0, true⟩) := by
   unfold appendS
   simp only [hright, Bool.false_eq_true, if_false, Bool.true_eq_false]
   rw [if_neg hroom]
   simp [St.burn]
  rw [e2]
  simp only
  rw [if_pos (by simp)]
  have e3 : cleanS ⟨[A], 8388608, 0, true⟩ = (7, ⟨[A], 8388608, 0, true⟩) := by unfold cleanS; rw [if_pos rfl]
  simp only [e3]
  refine ⟨.inr ⟨?_, by simp⟩, by intro h; simp at h⟩
  have e4 : crashS ⟨[A], 8388608, 0, true⟩ keep = oneS 8388608 a := by rw [hA]; rfl
  rw [e4, one_load _ ha]
 ·have e2 : appendS ⟨[A], 8388608, (n : Int), false⟩ fb (textB b) = (0, ⟨twoE o A ⟨fb, [], textB b⟩, 8388608, (n : Int) - 1, false⟩) := by
   unfold appendS
   simp only [hright, Bool.false_eq_true, if_false, Bool.true_eq_false]
   rw [if_neg hroom]
   have : (St.burn ⟨[A], 8388608, (n : Int), false⟩) = ⟨[A], 8388608, (n : Int) - 1, false⟩ := by
    unfold St.burn
    simp only [Bool.false_or]
    rw [if_pos (by omega), decide_eq_false (by omega)]
   rw [this, hadd]
   simp
  rw [e2]
  simp only
  rw [if_neg (by simp)]
  have hgb : eget (twoE o A ⟨fb, [], textB b⟩) fb = some ⟨fb, [], textB b⟩ := two_b (A := A) (B := ⟨fb, [], textB b⟩) hnb
  by_cases n1 : n = 1
  ·subst n1
   have e3 : syncS ⟨twoE o A ⟨fb, [], textB b⟩, 8388608, ((1 : Nat) : Int) - 1, false⟩ fb = (7, ⟨twoE o A ⟨fb, [], textB b⟩, 8388608, 0, true⟩) := by
    unfold syncS onFile
    simp only [Bool.false_eq_true, if_false, hgb]
    simp [St.burn]
   rw [e3]
   simp only
   have e4 : cleanS ⟨twoE o A ⟨fb, [], textB b⟩, 8388608, 0, true⟩ = (7, ⟨twoE o A ⟨fb, [], textB b⟩, 8388608, 0, true⟩) := by unfold cleanS; rw [if_pos rfl]
   simp only [e4]
   obtain ⟨_, _, hc⟩ := two_crash (o := o) (A := A) (B := ⟨fb, [], textB b⟩) hAl keep
   obtain ⟨k, hk⟩ := crash_late keep fb (textB b) htn
   rw [hk] at hc
   have e5 : crashS ⟨twoE o A ⟨fb, [], textB b⟩, 8388608, 0, true⟩ keep = ⟨twoE o A ⟨fb, (textB b).take k, []⟩, 8388608, -1, false⟩ := by
    unfold crashS
    simp only [hc]
   rw [e5, hA, hfb]
   have hl := two_load ha hb hlt o ((textB b).take k) [] 8388608 (-1)
   rw [List.append_nil] at hl
   refine ⟨?_, by intro h; simp at h⟩
   by_cases hkl : k < (textB b).length
   ·exact .inr ⟨hl.2 (whole_cut hb _ hkl), by simp⟩
   ·exact .inl (hl.1 (List.take_of_length_le (by omega)))
  ·have e3 : syncS ⟨twoE o A ⟨fb, [], textB b⟩, 8388608, (n : Int) - 1, false⟩ fb = (0, ⟨twoE o A ⟨fb, textB b, []⟩, 8388608, (n : Int) - 2, false⟩) := by
    unfold syncS onFile
    simp only [Bool.false_eq_true, if_false, hgb]
    have h1 : (St.burn ⟨twoE o A ⟨fb, [], textB b⟩, 8388608, (n : Int) - 1, false⟩) = ⟨twoE o A ⟨fb, [], textB b⟩, 8388608, (n : Int) - 2, false⟩ := by
     unfold St.burn
     simp only [Bool.false_or]
     rw [if_pos (by omega), decide_eq_false (by omega)]
     congr 1
     omega
    have h2 := two_mod (o := o) (A := A) (B := ⟨fb, [], textB b⟩) hnb (fun f => ⟨f.n, f.d ++ f.l, []⟩)
    simp only [List.nil_append] at h2
    rw [h1, h2]
    simp
   rw [e3]
   simp only
   have hl : ∀ fu, loadR ⟨twoE o A ⟨fb, textB b, []⟩, 8388608, fu, false⟩ = (b, true, 0) := fun fu => by
    rw [hA, hfb]
    exact (two_load ha hb hlt o (textB b) [] 8388608 fu).1 (List.append_nil _)
   have hl2 : ∀ fu, loadS ⟨twoE o A ⟨fb, textB b, []⟩, 8388608, fu, false⟩ = (b, true) := fun fu => by
    have := hl fu
    unfold loadR at this
    simp only [Bool.false_eq_true, if_false, Prod.mk.injEq] at this
    exact Prod.ext this.1 this.2.1
   have hcr : ∀ fu of, crashS ⟨twoE o A ⟨fb, textB b, []⟩, 8388608, fu, of⟩ keep = ⟨twoE o A ⟨fb, textB b, []⟩, 8388608, -1, false⟩ := fun fu of => by
    obtain ⟨_, _, hc⟩ := two_crash (o := o) (A := A) (B := ⟨fb, textB b, []⟩) hAl keep
    unfold crashS
    simp only [hc]
    rfl
   have hga : eget (twoE o A ⟨fb, textB b, []⟩) A.n = some A := two_a (A := A) (B := ⟨fb, textB b, []⟩) hnb
   have sA : ¬ (namedB A.n = false ∨ (True ∧ A.n = fileB b.i.toNat)) := by
    rw [hAn, fileB_named]
    simp
    exact hne
   have sB : (namedB fb = false ∨ (True ∧ fb = fileB b.i.toNat)) := .inr ⟨trivial, hfb⟩
   have hcl : ∀ fu, cleanS ⟨twoE o A ⟨fb, textB b, []⟩, 8388608, fu, false⟩ = if (removeS ⟨twoE o A ⟨fb, textB b, []⟩, 8388608, fu, false⟩ A.n).1 ≠ 0 then removeS ⟨twoE o A ⟨fb, textB b, []⟩, 8388608, fu, false⟩ A.n else (0, (removeS ⟨twoE o A ⟨fb, textB b, []⟩, 8388608, fu, false⟩ A.n).2) := fun fu => by
    unfold cleanS
    rw [hl2, show namesS ⟨twoE o A ⟨fb, textB b, []⟩, 8388608, fu, false⟩ = (twoE o A ⟨fb, textB b, []⟩).map En.n from rfl]
    generalize hX : (⟨twoE o A ⟨fb, textB b, []⟩, 8388608, fu, false⟩ : St) = X
    have hoff : X.off = false := by rw [← hX]
    rw [hoff]
    simp only [Bool.false_eq_true, if_false]
    unfold twoE
    cases o
    ·simp only [Bool.false_eq_true, if_false, List.map_cons, List.map_nil, cleanL]
     rw [if_pos sB, if_neg sA]
    ·simp only [if_true, List.map_cons, List.map_nil, cleanL]
     rw [if_neg sA, if_pos sB]
   by_cases n2 : n = 2
   ·subst n2
    have e4 : removeS ⟨twoE o A ⟨fb, textB b, []⟩, 8388608, ((2 : Nat) : Int) - 2, false⟩ A.n = (7, ⟨twoE o A ⟨fb, textB b, []⟩, 8388608, 0, true⟩) := by
     unfold removeS onFile
     simp only [Bool.false_eq_true, if_false, hga]
     simp [St.burn]
    rw [hcl, e4]
    simp only
    rw [if_pos (by simp)]
    simp only
    rw [hcr, hl]
    exact ⟨.inl rfl, by intro _ h; simp at h⟩
   ·have e4 : removeS ⟨twoE o A ⟨fb, textB b, []⟩, 8388608, (n : Int) - 2, false⟩ A.n = (0, ⟨[⟨fb, textB b, []⟩], 8388608, (n : Int) - 3, false⟩) := by
     unfold removeS onFile
     simp only [Bool.false_eq_true, if_false, hga]
     have h1 : (St.burn ⟨twoE o A ⟨fb, textB b, []⟩, 8388608, (n : Int) - 2, false⟩) = ⟨twoE o A ⟨fb, textB b, []⟩, 8388608, (n : Int) - 3, false⟩ := by
      unfold St.burn
      simp only [Bool.false_or]
      rw [if_pos (by omega), decide_eq_false (by omega)]
      congr 1
      omega
     rw [h1, two_del (A := A) (B := ⟨fb, textB b, []⟩) hnb]
     simp
    rw [hcl, e4]
    simp only
    rw [if_neg (by simp)]
    have e5 : crashS ⟨[⟨fb, textB b, []⟩], 8388608, (n : Int) - 3, false⟩ keep = oneS 8388608 b := by rw [hfb]; rfl
    simp only [e5]
    exact ⟨.inl (one_load _ hb), fun _ _ => rfl⟩
end Go.Proofs.YtjdgdmlhipbaaaaDoor
