/-
  Chapter 6 in plain words, more: what is summed over a map's files in any order; the names in their order; a map with a new file. No program in sight.
-/
import Derived.Test.YtfkjgkgflkhbnaaDoorDkPlain
namespace Go.Proofs.YtfkjgkgflkhbnaaDoor
open Go.RowKit Go.Maps
set_option linter.unusedSimpArgs false
set_option linter.unusedVariables false

theorem Step.of_grown {w w1 w' : World} {S S' : List Nat} (h : Step S S' w w1) {row : Option Nat} (hg : w1.grownBy w' row) (hr : ∀ j, row = some j → j ∈ S' ∨ w.heap.size ≤ j) : Step S S' w w' :=
  ⟨hg.os.trans h.os, hg.tape.trans h.tape, hg.output.trans h.output, Nat.le_trans h.size hg.size, fun k hk hn => (hg.block k (Nat.lt_of_lt_of_le hk h.size) (by
    intro e
    rcases hr k e.symm with h1 | h1
    · rcases h.fresh k h1 with h2 | h2
      · exact hn h2
      · omega
    · omega)).trans (h.block k hk hn), h.fresh⟩

def sizeU (L : List Fil) (n : List UInt8) : Nat := match fget L n with | some f => f.d.length + f.l.length | none => 0
def sumU (L : List Fil) (ss : List (List UInt8)) : Nat := (ss.map (sizeU L)).sum
theorem ris_nodup {L : List Fil} (h : Ris L) : (L.map Fil.n).Nodup := by
  refine List.pairwise_map.2 (h.imp fun {f g} hb e => ?_)
  rw [e, WideAt.bytes_irrefl] at hb
  cases hb
theorem fget_isSome {L : List Fil} {x : List UInt8} : (fget L x).isSome = true ↔ x ∈ L.map Fil.n := by
  unfold fget
  rw [List.find?_isSome, List.mem_map]
  constructor
  · rintro ⟨f, hf, he⟩; exact ⟨f, hf, by simpa using he⟩
  · rintro ⟨f, hf, he⟩; exact ⟨f, hf, by simpa using he⟩
theorem coll_perm {L : List Fil} {left : Lit → Bool} {ss : List (List UInt8)} (h : Collected (dat L) left ss) (hr : Ris L) :
    (ss ++ (L.map Fil.n).filter fun x => left (.string x)).Perm (L.map Fil.n) := by
  have hn := ris_nodup hr
  have hm : ∀ x, x ∈ ss ↔ x ∈ L.map Fil.n ∧ left (.string x) = false := fun x => by rw [h.2 x, dat_has, fget_isSome]
  refine (List.perm_ext_iff_of_nodup (List.nodup_append.2 ⟨h.1, hn.filter _, fun a ha b hb => ?_⟩) hn).2 fun x => ?_
  · rintro rfl
    have h1 := ((hm a).1 ha).2
    have h2 := (List.mem_filter.1 hb).2
    simp only [h1] at h2
    cases h2
  · rw [List.mem_append, hm x, List.mem_filter]
    cases hl : left (.string x) <;> simp
theorem sumU_app (L : List Fil) (a b : List (List UInt8)) : sumU L (a ++ b) = sumU L a + sumU L b := by simp [sumU]
theorem sizeU_mem {L : List Fil} (h : Ris L) {f : Fil} (hf : f ∈ L) : sizeU L f.n = f.d.length + f.l.length := by
  obtain ⟨A, B, rfl⟩ := List.append_of_mem hf
  unfold sizeU
  rw [fget_mid h]
theorem sumU_all {L : List Fil} (h : Ris L) : sumU L (L.map Fil.n) = usedE (L.map Fil.en) := by
  unfold sumU usedE
  rw [List.map_map, List.map_map]
  congr 1
  exact List.map_congr_left fun f hf => sizeU_mem h hf
theorem sumU_le {L : List Fil} {left : Lit → Bool} {ss : List (List UInt8)} (h : Collected (dat L) left ss) (hr : Ris L) : sumU L ss ≤ usedE (L.map Fil.en) := by
  have hp := (coll_perm h hr).map (sizeU L)
  have hs := hp.sum_nat
  have e : sumU L (ss ++ (L.map Fil.n).filter fun x => left (.string x)) = sumU L (L.map Fil.n) := hs
  rw [sumU_app, sumU_all hr] at e
  omega
theorem sumU_end {L : List Fil} {left : Lit → Bool} {ss : List (List UInt8)} (h : Collected (dat L) left ss) (hr : Ris L) (hl : ∀ kl, left kl = false) : sumU L ss = usedE (L.map Fil.en) := by
  have hp := (coll_perm h hr).map (sizeU L)
  have hs := hp.sum_nat
  have e : sumU L (ss ++ (L.map Fil.n).filter fun x => left (.string x)) = sumU L (L.map Fil.n) := hs
  rw [sumU_app, sumU_all hr, show ((L.map Fil.n).filter fun x => left (.string x)) = [] from by simp [hl]] at e
  exact e
/-- An entry of the map is a file. -/
theorem dat_entry {L : List Fil} {x : List UInt8} {p : Option Nat} {y : DataW Unit × List MemPlace} (hv : ptrElem (.pointer (p.map fun b => ⟨b, 0, none⟩)) = some y) (hat : ∀ zd, (dat L).atKey (.string x) zd = y.1) : ∃ f ∈ L, f.n = x ∧ p = some f.b := by
  have h1 := hat (.lit (.bool true))
  rw [dat_at] at h1
  cases hg : fget L x with
  | none =>
    rw [hg] at h1
    simp only at h1
    have h2 := hat (.lit (.bool false))
    rw [dat_at, hg] at h2
    simp only at h2
    rw [← h2] at h1
    simp at h1
  | some f =>
    rw [hg] at h1
    obtain ⟨hn, A, B, rfl, _⟩ := fget_some hg
    refine ⟨f, by simp, hn, ?_⟩
    simp only at h1
    have h3 := ptrElem_inv (b := f.b) (ps := y.2) (v := .pointer (p.map fun b => ⟨b, 0, none⟩)) (by rw [hv, h1])
    cases p with
    | none => simp at h3
    | some b => simp at h3; simp [h3]
end Go.Proofs.YtfkjgkgflkhbnaaDoor
