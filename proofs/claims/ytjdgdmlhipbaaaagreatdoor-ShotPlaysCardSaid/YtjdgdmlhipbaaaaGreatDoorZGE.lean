/-
  Chapter 8 in plain words, more: a right snapshot's text is whole; what Save makes of a disk that has room, no fuse and is on. No program in sight.
-/
import Derived.Test.YtjdgdmlhipbaaaaGreatDoorZShN
namespace Go.Proofs.YtjdgdmlhipbaaaaGreatDoor
open Go.RowKit Go.Maps
set_option linter.unusedSimpArgs false
set_option linter.unusedVariables false

theorem parts_text {s : Sn} (h : RSn s) : partsB (bodyB s) = (s, ⟨[], false⟩) := by
  have e1 : rnum ⟨bodyB s, false⟩ = (s.i, ⟨numB s.t.toNat ++ (numB s.dt.length ++ s.dt), false⟩) := by
    have := upto_back s.i.toNat (numB s.t.toNat ++ (numB s.dt.length ++ s.dt)) 4611686018427387903 (by have := h.i; omega) (by have := h.i; omega)
    rwa [Int.toNat_of_nonneg h.i.1] at this
  have e2 : rnum ⟨numB s.t.toNat ++ (numB s.dt.length ++ s.dt), false⟩ = (s.t, ⟨numB s.dt.length ++ s.dt, false⟩) := by
    have := upto_back s.t.toNat (numB s.dt.length ++ s.dt) 4611686018427387903 (by have := h.t; omega) (by have := h.t; omega)
    rwa [Int.toNat_of_nonneg h.t.1] at this
  have e3 : rtext ⟨numB s.dt.length ++ s.dt, false⟩ 1048576 = (s.dt, ⟨[], false⟩) := by
    have := text_back s.dt [] 1048576 (by have := h.dt; omega) (by have := h.dt; omega)
    rwa [List.append_nil] at this
  unfold partsB
  simp only [e1, e2, e3]
theorem whole_text {s : Sn} (h : RSn s) : wholeB (fileB s.i.toNat) (textB s) = some s := by
  have hl := (text_len h).2
  have hd : (textB s).drop 4 = bodyB s := by
    unfold textB
    rw [List.drop_left' (be4_len _)]
  unfold wholeB
  rw [if_neg (by omega), hd, parts_text h]
  simp only
  rw [if_pos ⟨by unfold rend; simp, rightSn_iff.2 h, trivial, trivial⟩]
/-! ### a snapshot's file has a right name -/
theorem right_low : ∀ (l : List UInt8) (f : Bool) (n : Nat), (∀ c ∈ l, (97 ≤ c.toNat ∧ c.toNat ≤ 122) ∨ (48 ≤ c.toNat ∧ c.toNat ≤ 57)) → rightR f n l = (decide (1 ≤ n + l.length) && decide (n + l.length ≤ 24)) := by
  intro l
  induction l with
  | nil => intro f n _; rw [rightR_nil]; rfl
  | cons c r ih =>
    intro f n h
    have hc := h c (by simp)
    have hs : sizeOf8 (c :: r) = 1 := by
      unfold sizeOf8
      rw [if_pos (by simp [inB]; omega)]
    rw [rightR_ok f n (c :: r) (by simp) (by rw [hs]; omega), hs]
    have hn : nameC f [c] = true := by
      show (decide (97 ≤ c.toNat ∧ c.toNat ≤ 122) || decide (48 ≤ c.toNat ∧ c.toNat ≤ 57) || decide (c.toNat = 95) || (decide (c.toNat = 45) && !f)) = true
      rcases hc with hc | hc
      · rw [decide_eq_true hc]; rfl
      · rw [decide_eq_true hc]; simp
    simp only [List.take_succ_cons, List.take_zero, List.drop_succ_cons, List.drop_zero]
    rw [hn, ih false (n + 1) (fun x hx => h x (by simp [hx])), Bool.true_and, List.length_cons]
    congr 2
    all_goals first | exact propext ⟨fun _ => by omega, fun _ => by omega⟩ | (rw [show n + 1 + r.length = n + (r.length + 1) by omega]) | skip
theorem fileB_right (n : Nat) : rightL (fileB n) = true := by
  unfold rightL
  rw [right_low _ _ _ (fun c hc => by
    rcases List.mem_cons.1 hc with rfl | hc
    · exact .inl (by decide)
    · exact .inr (digs_range 13 n c hc)), fileB_len]
  decide
end Go.Proofs.YtjdgdmlhipbaaaaGreatDoor
namespace Go.Proofs.YtjdgdmlhipbaaaaGreatDoor
open Go.RowKit Go.Maps
set_option linter.unusedSimpArgs false
set_option linter.unusedVariables false

theorem eget_cons (y : En) (r : List En) (m : List UInt8) : eget (y :: r) m = if y.n = m then some y else eget r m := by
  unfold eget
  rw [List.find?_cons]
  by_cases h : y.n = m
  · rw [if_pos h, show (y.n == m) = true by simpa using h]
  · rw [if_neg h, show (y.n == m) = false by simpa using h]
/-- The bytes of a file, if it is there. -/
def bytesE (E : List En) (m : List UInt8) : Option (List UInt8) := (eget E m).map fun f => f.d ++ f.l
end Go.Proofs.YtjdgdmlhipbaaaaGreatDoor
namespace Go.Proofs.YtjdgdmlhipbaaaaGreatDoor
open Go.RowKit Go.Maps
set_option linter.unusedSimpArgs false
set_option linter.unusedVariables false

theorem readS_bytes {s : St} (ho : s.off = false) (f : List UInt8) : readS s f = match bytesE s.E f with | none => ([], 8) | some b => (b, 0) := by
  unfold readS bytesE
  rw [ho]
  simp only [Bool.false_eq_true, if_false]
  cases eget s.E f <;> rfl
def rdB (E : List En) (f : List UInt8) : Sn × Bool := match bytesE E f with
  | none => (sn0, false)
  | some b => match wholeB f b with | some x => (x, true) | none => (sn0, false)
theorem rdS_bytes {s : St} (ho : s.off = false) (f : List UInt8) : rdS s f = rdB s.E f := by
  unfold rdS rdB
  rw [readS_bytes ho]
  cases bytesE s.E f with
  | none => simp
  | some b => simp only [if_true]; cases wholeB f b <;> rfl
theorem burn_still {s : St} (ho : s.off = false) (hf : s.fuse = -1) : s.burn = s := by
  unfold St.burn
  rw [ho, hf]
  cases s
  simp at ho hf
  simp [ho, hf]
theorem onFile_still {s : St} (ho : s.off = false) (hf : s.fuse = -1) (n : List UInt8) (g : En → List En) : onFile s n g = match eget s.E n with | none => (8, s) | some f => (0, ⟨g f, s.room, -1, false⟩) := by
  unfold onFile
  rw [burn_still ho hf, ho, hf]
  simp only [Bool.false_eq_true, if_false]
  cases eget s.E n <;> rfl
theorem append_still {s : St} (ho : s.off = false) (hf : s.fuse = -1) {n : List UInt8} (hn : rightL n = true) (b : List UInt8) : appendS s n b = if (usedE s.E : Int) + b.length > s.room then (6, s) else (0, ⟨addE s.E n b, s.room, -1, false⟩) := by
  unfold appendS
  rw [burn_still ho hf, ho, hf, hn]
  simp
theorem ris_edel {E : List En} (h : ERis E) (n : List UInt8) : ERis (edel E n) := List.Pairwise.sublist List.filter_sublist h
theorem ris_emod {E : List En} (h : ERis E) (n : List UInt8) (g : En → En) (hg : ∀ f, (g f).n = f.n) : ERis (emod E n g) := by
  unfold ERis emod at *
  rw [List.pairwise_map]
  refine h.imp ?_
  intro a b hab
  have : ∀ f : En, (if (f.n == n) = true then g f else f).n = f.n := fun f => by split; exact hg f; rfl
  rw [this, this]
  exact hab
/-- What stands behind a Save that went well. -/
structure Put (E E' : List En) (f t : List UInt8) : Prop where
  bytes : ∀ m, bytesE E' m = if m = f then some t else bytesE E m
  used : usedE E' ≤ usedE E + t.length
  len : E'.length ≤ E.length + 1
end Go.Proofs.YtjdgdmlhipbaaaaGreatDoor
namespace Go.Proofs.YtjdgdmlhipbaaaaGreatDoor
open Go.RowKit Go.Maps
set_option linter.unusedSimpArgs false
set_option linter.unusedVariables false

theorem ris_remove {s : St} (h : ERis s.E) (f : List UInt8) : ERis (removeS s f).2.E := by
  unfold removeS onFile
  split
  · exact h
  · split
    · exact h
    · split
      · exact h
      · exact ris_edel h f
theorem ok_save {s : St} {k : Nat} (h : Ok6 s k) (hr : ERis s.E) (x : Sn) (hk : k < 1099511627776) : Ok6 (saveS s x).2 (k + 1) := by
  have hf : (fileB x.i.toNat).length ≤ 1099511627776 := by rw [fileB_len]; omega
  unfold saveS
  split
  · exact ok_more h
  · split
    · exact ok_more h
    · generalize fileB x.i.toNat = f at hf
      have h1 := ok_remove h f
      have h2 := ok_append h1 (ris_remove hr f) f (textB x) hf hk
      unfold saveT
      split
      · exact ok_more h1
      · split
        · exact h2
        · exact ok_sync h2 f
theorem ok_cleanL (x : Sn) (t : Bool) {k : Nat} : ∀ (l : List (List UInt8)) (s : St), Ok6 s k → Ok6 (cleanL x t l s).2 k
  | [], s, h => h
  | f :: r, s, h => by
    unfold cleanL
    split
    · exact ok_cleanL x t r s h
    · split
      · exact ok_remove h f
      · exact ok_cleanL x t r _ (ok_remove h f)
theorem ok_clean {s : St} {k : Nat} (h : Ok6 s k) : Ok6 (cleanS s).2 k := by
  unfold cleanS
  split
  · exact h
  · exact ok_cleanL _ _ _ _ h
end Go.Proofs.YtjdgdmlhipbaaaaGreatDoor
namespace Go.Proofs.YtjdgdmlhipbaaaaGreatDoor
open Go.RowKit Go.Maps
set_option linter.unusedSimpArgs false
set_option linter.unusedVariables false

end Go.Proofs.YtjdgdmlhipbaaaaGreatDoor
namespace Go.Proofs.YtjdgdmlhipbaaaaGreatDoor
open Go.RowKit Go.Maps
set_option linter.unusedSimpArgs false
set_option linter.unusedVariables false

def skipB (x : Sn) (t : Bool) (f : List UInt8) : Prop := namedB f = false ∨ (t = true ∧ f = fileB x.i.toNat)
instance (x : Sn) (t : Bool) (f : List UInt8) : Decidable (skipB x t f) := by unfold skipB; infer_instance
end Go.Proofs.YtjdgdmlhipbaaaaGreatDoor
namespace Go.Proofs.YtjdgdmlhipbaaaaGreatDoor
open Go.RowKit Go.Maps
set_option linter.unusedSimpArgs false
set_option linter.unusedVariables false

/-- A disk with one snapshot. -/
def oneS (room : Int) (x : Sn) : St := ⟨[⟨fileB x.i.toNat, textB x, []⟩], room, -1, false⟩
theorem save_new {room : Int} {x : Sn} (hx : RSn x) (hl : ((textB x).length : Int) ≤ room) : saveS (newS room) x = (0, oneS room x) := by
  unfold saveS
  rw [if_neg (by rw [rightSn_iff.2 hx]; simp), if_neg (by
    rw [rdS_bytes (by rfl)]
    unfold rdB
    rw [show bytesE (newS room).E (fileB x.i.toNat) = none from rfl]
    simp)]
  have h1 : removeS (newS room) (fileB x.i.toNat) = (8, newS room) := by
    unfold removeS
    rw [onFile_still rfl rfl]
    rfl
  have h2 : appendS (newS room) (fileB x.i.toNat) (textB x) = (0, ⟨[⟨fileB x.i.toNat, [], textB x⟩], room, -1, false⟩) := by
    rw [append_still rfl rfl (fileB_right _), if_neg (by show ¬ ((0 : Nat) : Int) + _ > room; omega)]
    rfl
  unfold saveT
  rw [h1]
  simp only
  rw [if_neg (by simp), h2]
  simp only
  rw [if_neg (by simp)]
  unfold syncS
  rw [onFile_still rfl rfl]
  have h3 : eget [(⟨fileB x.i.toNat, [], textB x⟩ : En)] (fileB x.i.toNat) = some ⟨fileB x.i.toNat, [], textB x⟩ := by rw [eget_cons, if_pos rfl]
  simp only [h3]
  unfold emod oneS
  simp
theorem one_rd (room : Int) {x : Sn} (hx : RSn x) : rdS (oneS room x) (fileB x.i.toNat) = (x, true) := by
  rw [rdS_bytes rfl]
  unfold rdB
  have : bytesE (oneS room x).E (fileB x.i.toNat) = some (textB x) := by
    unfold bytesE oneS
    rw [eget_cons, if_pos rfl]
    simp
  rw [this]
  simp only [whole_text hx]
theorem one_load (room : Int) {x : Sn} (hx : RSn x) : loadR (oneS room x) = (x, true, 0) := by
  have h : loadS (oneS room x) = (x, true) := by
    unfold loadS
    rw [show namesS (oneS room x) = [fileB x.i.toNat] from rfl, List.foldl_cons, List.foldl_nil]
    unfold loadStep
    rw [one_rd room hx, fileB_named]
    simp
  unfold loadR
  rw [h]
  rfl
theorem one_crash (room : Int) (x : Sn) (keep : List Int) : crashS (oneS room x) keep = oneS room x := rfl
end Go.Proofs.YtjdgdmlhipbaaaaGreatDoor
