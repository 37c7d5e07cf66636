/-
  Chapter 8 in plain words, more: a right snapshot's text is whole; what Save makes of a disk that has room, no fuse and is on. No program in sight.
-/
import Derived.Test.YtnkbphecabnnaaaGreatDoorZShN
namespace Go.Proofs.YtnkbphecabnnaaaGreatDoor
open Go.RowKit Go.Maps
set_option linter.unusedSimpArgs false
set_option linter.unusedVariables false

/-! ### a snapshot's file has a right name -/
theorem right_low : ∀ (l : List UInt8) (f : Bool) (n : Nat), (∀ c ∈ l, (97 ≤ c.toNat ∧ c.toNat ≤ 122) ∨ (48 ≤ c.toNat ∧ c.toNat ≤ 57)) → rightR f n l = (decide (1 ≤ n + l.length) && decide (n + l.length ≤ 24)) := by
  intro l
  induction l with
  | nil => intro f n _; rw [rightR_nil]; rfl
  | cons c r ih =>
    intro f n h
    have hc := h c (by simp)
    have hs : sizeOf8 (c :: r) = 1 := by
      unfold sizeOf8
      rw [if_pos (by simp [inB]; omega)]
    rw [rightR_ok f n (c :: r) (by simp) (by rw [hs]; omega), hs]
    have hn : nameC f [c] = true := by
      show (decide (97 ≤ c.toNat ∧ c.toNat ≤ 122) || decide (48 ≤ c.toNat ∧ c.toNat ≤ 57) || decide (c.toNat = 95) || (decide (c.toNat = 45) && !f)) = true
      rcases hc with hc | hc
      · rw [decide_eq_true hc]; rfl
      · rw [decide_eq_true hc]; simp
    simp only [List.take_succ_cons, List.take_zero, List.drop_succ_cons, List.drop_zero]
    rw [hn, ih false (n + 1) (fun x hx => h x (by simp [hx])), Bool.true_and, List.length_cons]
    congr 2
    all_goals first | exact propext ⟨fun _ => by omega, fun _ => by omega⟩ | (rw [show n + 1 + r.length = n + (r.length + 1) by omega]) | skip
end Go.Proofs.YtnkbphecabnnaaaGreatDoor
namespace Go.Proofs.YtnkbphecabnnaaaGreatDoor
open Go.RowKit Go.Maps
set_option linter.unusedSimpArgs false
set_option linter.unusedVariables false

theorem eget_edel (E : List En) (n m : List UInt8) : eget (edel E n) m = if m = n then none else eget E m := by
  unfold eget edel
  rw [List.find?_filter]
  split
  · rename_i h
    subst h
    rw [List.find?_eq_none]
    intro x _
    simp
  · rename_i h
    congr 1
    funext x
    by_cases hx : x.n = m
    · subst hx; simp [h]
    · simp [hx]
theorem eget_cons (y : En) (r : List En) (m : List UInt8) : eget (y :: r) m = if y.n = m then some y else eget r m := by
  unfold eget
  rw [List.find?_cons]
  by_cases h : y.n = m
  · rw [if_pos h, show (y.n == m) = true by simpa using h]
  · rw [if_neg h, show (y.n == m) = false by simpa using h]
theorem eget_eins (x : En) : ∀ (E : List En) (m : List UInt8), eget E x.n = none → eget (eins x E) m = if m = x.n then some x else eget E m
  | [], m, _ => by
    show eget [x] m = _
    rw [eget_cons]
    by_cases h : m = x.n
    · rw [if_pos h.symm, if_pos h]
    · rw [if_neg (fun e => h e.symm), if_neg h]
  | y :: r, m, h0 => by
    rw [eget_cons] at h0
    by_cases hy : y.n = x.n
    · rw [if_pos hy] at h0; cases h0
    rw [if_neg hy] at h0
    unfold eins
    split
    · rw [eget_cons]
      by_cases h : m = x.n
      · rw [if_pos h.symm, if_pos h]
      · rw [if_neg (fun e => h e.symm), if_neg h]
    · rw [eget_cons, eget_eins x r m h0, eget_cons]
      by_cases hm : y.n = m
      · rw [if_pos hm, if_pos hm, if_neg (fun e => hy (hm.trans e))]
      · rw [if_neg hm, if_neg hm]
theorem eget_emod (E : List En) (n : List UInt8) (g : En → En) (hg : ∀ f, (g f).n = f.n) (m : List UInt8) : eget (emod E n g) m = if m = n then (eget E m).map g else eget E m := by
  unfold eget emod
  rw [List.find?_map]
  have hp : ((fun f : En => f.n == m) ∘ fun f => if (f.n == n) = true then g f else f) = fun f => f.n == m := by
    funext f
    simp only [Function.comp]
    split
    · rw [hg]
    · rfl
  rw [hp]
  cases hf : E.find? (fun f => f.n == m) with
  | none => simp
  | some f =>
    have := List.find?_some hf
    simp only [beq_iff_eq] at this
    simp only [Option.map_some]
    subst this
    by_cases h : f.n = n
    · simp [h]
    · simp [h]
theorem eget_addE (E : List En) (n b m : List UInt8) : eget (addE E n b) m = if m = n then some (match eget E n with | some f => ⟨f.n, f.d, f.l ++ b⟩ | none => ⟨n, [], b⟩) else eget E m := by
  unfold addE
  cases hg : eget E n with
  | some f =>
    simp only
    rw [eget_emod E n (fun f => ⟨f.n, f.d, f.l ++ b⟩) (fun _ => rfl)]
    by_cases h : m = n
    · subst h; rw [if_pos rfl, if_pos rfl, hg]; rfl
    · rw [if_neg h, if_neg h]
  | none =>
    simp only
    rw [eget_eins ⟨n, [], b⟩ E m hg]
/-- The bytes of a file, if it is there. -/
def bytesE (E : List En) (m : List UInt8) : Option (List UInt8) := (eget E m).map fun f => f.d ++ f.l
theorem bytes_edel (E : List En) (n m : List UInt8) : bytesE (edel E n) m = if m = n then none else bytesE E m := by
  unfold bytesE; rw [eget_edel]; split <;> rfl
theorem bytes_addE (E : List En) (n b m : List UInt8) : bytesE (addE E n b) m = if m = n then some ((bytesE E n).getD [] ++ b) else bytesE E m := by
  unfold bytesE
  rw [eget_addE]
  by_cases h : m = n
  · rw [if_pos h, if_pos h]
    cases eget E n <;> simp
  · rw [if_neg h, if_neg h]
theorem bytes_sync (E : List En) (n m : List UInt8) : bytesE (emod E n fun f => ⟨f.n, f.d ++ f.l, []⟩) m = bytesE E m := by
  unfold bytesE
  rw [eget_emod E n (fun f => ⟨f.n, f.d ++ f.l, []⟩) (fun _ => rfl)]
  split
  · cases eget E m <;> simp
  · rfl
end Go.Proofs.YtnkbphecabnnaaaGreatDoor
namespace Go.Proofs.YtnkbphecabnnaaaGreatDoor
open Go.RowKit Go.Maps
set_option linter.unusedSimpArgs false
set_option linter.unusedVariables false

theorem readS_bytes {s : St} (ho : s.off = false) (f : List UInt8) : readS s f = match bytesE s.E f with | none => ([], 8) | some b => (b, 0) := by
  unfold readS bytesE
  rw [ho]
  simp only [Bool.false_eq_true, if_false]
  cases eget s.E f <;> rfl
theorem burn_still {s : St} (ho : s.off = false) (hf : s.fuse = -1) : s.burn = s := by
  unfold St.burn
  rw [ho, hf]
  cases s
  simp at ho hf
  simp [ho, hf]
theorem onFile_still {s : St} (ho : s.off = false) (hf : s.fuse = -1) (n : List UInt8) (g : En → List En) : onFile s n g = match eget s.E n with | none => (8, s) | some f => (0, ⟨g f, s.room, -1, false⟩) := by
  unfold onFile
  rw [burn_still ho hf, ho, hf]
  simp only [Bool.false_eq_true, if_false]
  cases eget s.E n <;> rfl
theorem append_still {s : St} (ho : s.off = false) (hf : s.fuse = -1) {n : List UInt8} (hn : rightL n = true) (b : List UInt8) : appendS s n b = if (usedE s.E : Int) + b.length > s.room then (6, s) else (0, ⟨addE s.E n b, s.room, -1, false⟩) := by
  unfold appendS
  rw [burn_still ho hf, ho, hf, hn]
  simp
theorem ris_edel {E : List En} (h : ERis E) (n : List UInt8) : ERis (edel E n) := List.Pairwise.sublist List.filter_sublist h
theorem ris_emod {E : List En} (h : ERis E) (n : List UInt8) (g : En → En) (hg : ∀ f, (g f).n = f.n) : ERis (emod E n g) := by
  unfold ERis emod at *
  rw [List.pairwise_map]
  refine h.imp ?_
  intro a b hab
  have : ∀ f : En, (if (f.n == n) = true then g f else f).n = f.n := fun f => by split; exact hg f; rfl
  rw [this, this]
  exact hab
/-- What stands behind a Save that went well. -/
structure Put (E E' : List En) (f t : List UInt8) : Prop where
  bytes : ∀ m, bytesE E' m = if m = f then some t else bytesE E m
  used : usedE E' ≤ usedE E + t.length
  len : E'.length ≤ E.length + 1
end Go.Proofs.YtnkbphecabnnaaaGreatDoor
namespace Go.Proofs.YtnkbphecabnnaaaGreatDoor
open Go.RowKit Go.Maps
set_option linter.unusedSimpArgs false
set_option linter.unusedVariables false

end Go.Proofs.YtnkbphecabnnaaaGreatDoor
namespace Go.Proofs.YtnkbphecabnnaaaGreatDoor
open Go.RowKit Go.Maps
set_option linter.unusedSimpArgs false
set_option linter.unusedVariables false

end Go.Proofs.YtnkbphecabnnaaaGreatDoor
namespace Go.Proofs.YtnkbphecabnnaaaGreatDoor
open Go.RowKit Go.Maps
set_option linter.unusedSimpArgs false
set_option linter.unusedVariables false

def skipB (x : Sn) (t : Bool) (f : List UInt8) : Prop := namedB f = false ∨ (t = true ∧ f = fileB x.i.toNat)
instance (x : Sn) (t : Bool) (f : List UInt8) : Decidable (skipB x t f) := by unfold skipB; infer_instance
end Go.Proofs.YtnkbphecabnnaaaGreatDoor
namespace Go.Proofs.YtnkbphecabnnaaaGreatDoor
open Go.RowKit Go.Maps
set_option linter.unusedSimpArgs false
set_option linter.unusedVariables false

end Go.Proofs.YtnkbphecabnnaaaGreatDoor
namespace Go.Proofs.YtnkbphecabnnaaaGreatDoor
open Go.RowKit Go.Maps
set_option linter.unusedSimpArgs false
set_option linter.unusedVariables false

theorem shr_nat (x : Wd) (n : Nat) : (wshr x n).toNat = x.toNat / 2 ^ n := by simp [wshr, Nat.shiftRight_eq_div_pow]
/-! ### the states of ShotTorn -/
end Go.Proofs.YtnkbphecabnnaaaGreatDoor
namespace Go.Proofs.YtnkbphecabnnaaaGreatDoor
open Go.RowKit Go.Maps
set_option linter.unusedSimpArgs false
set_option linter.unusedVariables false

/-- What stands on the disk behind k of them. -/
structure Lst (E : List En) (n k : Nat) (best : Sn) : Prop where
  used : usedE E ≤ 31 * k + 6 * n
  len : E.length ≤ k
  all : ∀ f b, bytesE E f = some b → ∃ x, RSn x ∧ f = fileB x.i.toNat ∧ b = textB x ∧ (x.i < best.i ∨ x = best)
  top : (best = ⟨-1, 0, []⟩) ∨ (RSn best ∧ bytesE E (fileB best.i.toNat) = some (textB best))
theorem text_len31 {s : Sn} (h : RSn s) : (textB s).length ≤ s.dt.length + 31 := by
  have h1 := numB_len s.i.toNat (by have := h.i; omega)
  have h2 := numB_len s.t.toNat (by have := h.t; omega)
  have h3 := numB_len s.dt.length (by have := h.dt; omega)
  simp only [textB, bodyB, List.length_append, be4_len]
  omega
def bestOf (x best : Sn) : Sn := if best.i ≤ x.i then x else best
theorem Lst.step {E E' : List En} {n k : Nat} {best x : Sn} (h : Lst E n k best) (hx : RSn x) (hp : Put E E' (fileB x.i.toNat) (textB x)) (m : Nat) (hm : x.dt.length ≤ 6 * m) :
    Lst E' (n + m) (k + 1) (bestOf x best) := by
  refine ⟨?_, ?_, ?_, ?_⟩
  · have := hp.used
    have := text_len31 hx
    have := h.used
    omega
  · have := hp.len; have := h.len; omega
  · intro f b hb
    rw [hp.bytes] at hb
    by_cases hf : f = fileB x.i.toNat
    · rw [if_pos hf] at hb
      refine ⟨x, hx, hf, (Option.some.inj hb).symm, ?_⟩
      unfold bestOf
      split
      · exact .inr rfl
      · exact .inl (by omega)
    · rw [if_neg hf] at hb
      obtain ⟨y, hy, e1, e2, e3⟩ := h.all f b hb
      refine ⟨y, hy, e1, e2, ?_⟩
      unfold bestOf
      split
      · rename_i hle
        have hne : y.i ≠ x.i := fun e => hf (by rw [e1, e])
        rcases e3 with e3 | e3
        · exact .inl (by omega)
        · rw [e3] at hne ⊢
          exact .inl (by omega)
      · exact e3
  · right
    unfold bestOf
    split
    · exact ⟨hx, by rw [hp.bytes, if_pos rfl]⟩
    · rename_i hlt
      rcases h.top with e | ⟨h1, h2⟩
      · rw [e] at hlt; exact absurd hx.i.1 (by simp at hlt; omega)
      · refine ⟨h1, ?_⟩
        rw [hp.bytes, if_neg, h2]
        intro e
        have := fileB_inj (by have := h1.i; omega) (by have := hx.i; omega) e
        have := h1.i
        have := hx.i
        omega
theorem Lst.more {E : List En} {n k : Nat} {best : Sn} (h : Lst E n k best) (m : Nat) : Lst E (n + m) (k + 1) best :=
  ⟨by have := h.used; omega, by have := h.len; omega, h.all, h.top⟩
theorem Lst.room {E : List En} {n k : Nat} {best x : Sn} (h : Lst E n k best) (hk : k < 20) (hn : n ≤ 200000) (hx : RSn x) : ((usedE E : Int) + (textB x).length) ≤ 8388608 := by
  have := h.used
  have := (text_len hx).1
  omega
end Go.Proofs.YtnkbphecabnnaaaGreatDoor
namespace Go.Proofs.YtnkbphecabnnaaaGreatDoor
open Go.RowKit Go.Maps
set_option linter.unusedSimpArgs false
set_option linter.unusedVariables false

section
variable {o : Bool} {A B : En}
end
end Go.Proofs.YtnkbphecabnnaaaGreatDoor
