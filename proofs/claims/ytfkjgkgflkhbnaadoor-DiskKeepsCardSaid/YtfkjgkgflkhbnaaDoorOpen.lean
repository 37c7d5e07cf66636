/-
  Arguments as they come in, opened: what a cell, a slice, a struct, an array that can be read as data holds, and that it lies within the form's reach. Plain lemmas.
-/
import Derived.Test.YtfkjgkgflkhbnaaDoorMem
import Derived.ProofKit
import Derived.OpenShut
import Derived.SizedLaws
import Derived.Below
import Derived.Deep.Slices
namespace Go.Proofs.YtfkjgkgflkhbnaaDoor
open Go.RowKit Go.ChangeShapes Go.WideShapes Go.ChangeAt
set_option linter.unusedSimpArgs false
set_option linter.unusedVariables false

/-- The cells `cs` can be read as data of type `t`, each text and slice in it within the reach. -/
def Op (P : Program) (w : World) (t : TypeId) (cs : List Value) : Prop :=
  ∃ (H : Type) (enc : TypeId × Value → H) (fuel : Nat) (x : DataW H × List MemPlace), DataW.trod enc P w 0 (fun _ => true) true fuel t cs = some x ∧ ∀ n ∈ x.1.weights P t, n ≤ reachBytes

section
variable {P : Program} {w : World} {t : TypeId} {cs : List Value}

theorem Op.int {k : IntKind} (ht : P.underlying t = some (.int k)) (h : Op P w t cs) : ∃ x, cs = [.int k x] ∧ (Lit.int k x).wf = true := by
  obtain ⟨H, enc, fuel, x, hx, _⟩ := h
  obtain ⟨n, h1, _, h2⟩ := DataW.trod_int ht hx
  exact ⟨n, h1, h2⟩
theorem Op.bool (ht : P.underlying t = some .bool) (h : Op P w t cs) : ∃ b, cs = [.bool b] := by
  obtain ⟨H, enc, fuel, x, hx, _⟩ := h
  obtain ⟨b, h1, _⟩ := DataW.trod_bool ht hx
  exact ⟨b, h1⟩
theorem Op.str (ht : P.underlying t = some .string) (h : Op P w t cs) : ∃ l : List UInt8, cs = [Str l] ∧ l.length ≤ 140737488351232 := by
  obtain ⟨H, enc, fuel, x, hx, hn⟩ := h
  obtain ⟨s, h1, h2, _⟩ := DataW.trod_string ht hx
  obtain ⟨⟨l⟩⟩ := s
  refine ⟨l, h1, ?_⟩
  have := hn l.length (by rw [h2]; simp [DataW.weights])
  simpa [reachBytes] using this

theorem weightsAll_mem {H : Type} {e : TypeId} {ds : List (DataW H)} {d : DataW H} (h : d ∈ ds) : ∀ n ∈ d.weights P e, n ∈ DataW.weightsAll P e ds := by
  intro n hn
  induction ds with
  | nil => cases h
  | cons d0 ds ih =>
    simp only [DataW.weightsAll, List.mem_append]
    rcases List.mem_cons.1 h with rfl | h
    · exact .inl hn
    · exact .inr (ih h)
theorem weightsEach_mem {H : Type} {ts : List TypeId} {ds : List (DataW H)} {i : Nat} {u : TypeId} {d : DataW H} (hu : ts[i]? = some u) (hd : ds[i]? = some d) : ∀ n ∈ d.weights P u, n ∈ DataW.weightsEach P ts ds :=
  DataW.weights_mem_each hu hd

theorem Op.slice {e : TypeId} (ht : P.underlying t = some (.slice e)) {sz : Nat} (hc : P.cellsOf e = sz) (h : Op P w t cs) :
    ∃ (a : Option Addr) (n cap : Nat), cs = [.slice a n cap] ∧ n ≤ cap ∧ cap ≤ maxLen ∧ cap * P.bytesOf e ≤ 140737488351232 ∧
      ∀ i, i < n → ∃ cs' : List Value, cs'.length = sz ∧ (∃ ad, a = some ad ∧ ∀ j, j < sz → w.cell? (ad.add (i * sz + j)) = cs'[j]?) ∧ Op P w e cs' := by
  subst hc
  obtain ⟨H, enc, fuel, x, hx, hn⟩ := h
  rcases DataW.trod_slice ht hx with ⟨h1, h2⟩ | ⟨a, len, cap, elems, rest, n, _, h1, h2, hb, hl, hm, hlen, hel, hsp, _⟩
  · exact ⟨none, 0, 0, h1, Nat.le_refl _, Nat.zero_le _, by simp, fun i hi => by omega⟩
  · refine ⟨some a, len, cap, h1, hl, hm, ?_, fun i hi => ?_⟩
    · have hr := (hsp rfl).1
      have := hn ((elems.map (·.1)).length + (rest.map (·.1)).length |> (· * P.bytesOf e)) (by rw [h2]; simp [DataW.weights, ht])
      simp only [List.length_map, hlen, hr, reachBytes] at this
      rw [show len + (cap - len) = cap by omega] at this
      exact this
    · have hi' : i < elems.length := by omega
      have h3 := hel i hi
      rw [List.getElem?_eq_getElem hi'] at h3
      obtain ⟨cs', h4, h5⟩ := Option.bind_eq_some_iff.1 h3
      obtain ⟨_, h6, h7⟩ := World.cells?_some h4
      refine ⟨cs', h6, ⟨a, rfl, fun j hj => by rw [← Go.Deep.add_add]; exact h7 j hj⟩, H, enc, n, _, h5, fun k hk => ?_⟩
      refine hn k ?_
      rw [h2]
      simp only [DataW.weights, ht, List.mem_cons, List.mem_append]
      exact .inr (.inl (weightsAll_mem (d := elems[i].1) (List.mem_map.2 ⟨_, List.getElem_mem hi', rfl⟩) k hk))

theorem Op.struct {fs : Array Field} (ht : P.underlying t = some (.struct fs)) (h : Op P w t cs) : cs.length = P.cellsOf t ∧ ∀ (i : Nat) (f : Field), fs[i]? = some f → Op P w f.type ((cs.drop f.offset).take (P.cellsOf f.type)) := by
  obtain ⟨H, enc, fuel, x, hx, hn⟩ := h
  obtain ⟨xs, n, _, h2, hl, hlen, hf⟩ := DataW.trod_struct ht hx
  refine ⟨hl, fun i f hi => ?_⟩
  have hi' : i < xs.length := by rw [hlen]; exact (Array.getElem?_eq_some_iff.1 hi).1
  have h3 := hf i f hi
  rw [List.getElem?_eq_getElem hi'] at h3
  refine ⟨H, enc, n, _, h3, fun k hk => hn k ?_⟩
  rw [h2]
  simp only [DataW.weights, ht]
  exact weightsEach_mem (i := i) (d := xs[i].1) (by rw [List.getElem?_map, Array.getElem?_toList, hi]; rfl) (by rw [List.getElem?_map, List.getElem?_eq_getElem hi']; rfl) k hk

/-- One field of one cell. -/
theorem Op.field {fs : Array Field} (ht : P.underlying t = some (.struct fs)) (h : Op P w t cs) (i : Nat) (T : TypeId) (hf : (fs[i]?).map (fun f => (f.offset, f.type)) = some (i, T)) (hc : P.cellsOf T = 1) {c : Value} (hcs : cs[i]? = some c) : Op P w T [c] := by
  cases hfi : fs[i]? with
  | none => simp [hfi] at hf
  | some f =>
    simp only [hfi, Option.map_some, Option.some.injEq, Prod.mk.injEq] at hf
    have := (h.struct ht).2 i f hfi
    rw [hf.1, hf.2, hc] at this
    obtain ⟨hl, hx⟩ := List.getElem?_eq_some_iff.1 hcs
    rw [List.drop_eq_getElem_cons hl, hx] at this
    simpa using this

theorem Op.array {m : Nat} {e : TypeId} (ht : P.underlying t = some (.array m e)) (h : Op P w t cs) : cs.length = P.cellsOf t ∧ ∀ i, i < m → Op P w e ((cs.drop (i * P.cellsOf e)).take (P.cellsOf e)) := by
  obtain ⟨H, enc, fuel, x, hx, hn⟩ := h
  obtain ⟨xs, n, _, h2, hl, hlen, hf⟩ := DataW.trod_array ht hx
  refine ⟨hl, fun i hi => ?_⟩
  have hi' : i < xs.length := by omega
  have h3 := hf i hi
  rw [List.getElem?_eq_getElem hi'] at h3
  refine ⟨H, enc, n, _, h3, fun k hk => hn k ?_⟩
  rw [h2]
  simp only [DataW.weights, ht]
  exact weightsAll_mem (d := xs[i].1) (List.mem_map.2 ⟨_, List.getElem_mem hi', rfl⟩) k hk

/-- From 'for each i there is' to a list. -/
theorem list_of {α : Type} (n : Nat) (p : Nat → α → Prop) (h : ∀ i, i < n → ∃ x, p i x) : ∃ l : List α, l.length = n ∧ ∀ (i : Nat) (x : α), l[i]? = some x → p i x := by
  induction n with
  | zero => exact ⟨[], rfl, fun i x hx => by simp at hx⟩
  | succ n ih =>
    obtain ⟨l, hl, hp⟩ := ih fun i hi => h i (by omega)
    obtain ⟨x, hx⟩ := h n (by omega)
    refine ⟨l ++ [x], by simp [hl], fun i y hy => ?_⟩
    rw [List.getElem?_append] at hy
    split at hy
    · exact hp i y hy
    · rename_i hi
      have : i - l.length = 0 := by
        rcases Nat.eq_zero_or_pos (i - l.length) with h0 | h0
        · exact h0
        · rw [List.getElem?_eq_none (by simp; omega)] at hy; cases hy
      rw [this] at hy
      simp at hy
      subst hy
      have : i = n := by omega
      subst this
      exact hx

/-- Cells of equal pieces, read as one row. -/
theorem flat_at {α : Type} (f : α → List Value) (sz : Nat) (hf : ∀ x, (f x).length = sz) (l : List α) (k : Nat) (u : Value) (h : (l.flatMap f)[k]? = some u) : ∃ i x j, l[i]? = some x ∧ j < sz ∧ k = i * sz + j ∧ (f x)[j]? = some u := by
  induction l generalizing k with
  | nil => simp at h
  | cons x l ih =>
    rw [List.flatMap_cons, List.getElem?_append] at h
    split at h
    · rename_i hk
      rw [hf] at hk
      exact ⟨0, x, k, rfl, hk, by simp, h⟩
    · rename_i hk
      rw [hf] at h hk
      obtain ⟨i, y, j, h1, h2, h3, h4⟩ := ih _ h
      refine ⟨i + 1, y, j, by simpa using h1, h2, ?_, h4⟩
      rw [Nat.add_mul]
      omega
theorem flat_len {α : Type} (f : α → List Value) (sz : Nat) (hf : ∀ x, (f x).length = sz) (l : List α) : (l.flatMap f).length = l.length * sz := by
  induction l with
  | nil => simp
  | cons x l ih => rw [List.flatMap_cons, List.length_append, ih, hf, List.length_cons, Nat.add_mul]; omega

/-- A slice of things that are `sz` cells each, read as a list. -/
theorem rd_of {α : Type} (f : α → List Value) (sz : Nat) (hsz : 0 < sz) (hf : ∀ x, (f x).length = sz) {a : Option Addr} {n : Nat} (q : α → Prop)
    (h : ∀ i, i < n → ∃ x, (∃ ad, a = some ad ∧ ∀ j, j < sz → w.cell? (ad.add (i * sz + j)) = (f x)[j]?) ∧ q x) :
    ∃ l : List α, l.length = n ∧ Rd w sz a n (l.flatMap f) ∧ ∀ x ∈ l, q x := by
  obtain ⟨l, hl, hp⟩ := list_of n (fun i x => (∃ ad, a = some ad ∧ ∀ j, j < sz → w.cell? (ad.add (i * sz + j)) = (f x)[j]?) ∧ q x) h
  have hsp : ∀ ad, a = some ad → 0 < n → ad.spot = none := by
    intro ad e hn
    obtain ⟨x, ⟨ad', e', hc⟩, _⟩ := h 0 hn
    rw [e] at e'
    injection e' with e'
    subst e'
    have h0 := hc 0 hsz
    rw [List.getElem?_eq_getElem (by rw [hf]; exact hsz)] at h0
    have := World.cell?_spot h0
    simpa [Addr.add] using this
  refine ⟨l, hl, ⟨by rw [flat_len f sz hf, hl], fun hn => ?_, fun g off sp e j u hu => ?_⟩, fun x hx => ?_⟩
  · obtain ⟨x, ⟨ad, e, _⟩, _⟩ := h 0 hn
    have := hsp ad e hn
    obtain ⟨b, o, s⟩ := ad
    simp at this
    subst this
    exact ⟨b, o, e⟩
  · obtain ⟨i, x, j', h1, h2, h3, h4⟩ := flat_at f sz hf l j u hu
    have hi : i < l.length := (List.getElem?_eq_some_iff.1 h1).1
    obtain ⟨⟨ad, e', hc⟩, _⟩ := hp i x h1
    rw [e] at e'
    injection e' with e'
    subst e'
    have hs := hsp _ e (by omega)
    simp at hs
    subst hs
    have := hc j' h2
    rw [addr_add] at this
    rw [h3, this]
    exact h4
  · obtain ⟨i, hi⟩ := List.mem_iff_getElem?.1 hx
    exact (hp i x hi).2
end

/-- An argument, out of the reading of all. -/
theorem op_of {H : Type} {enc : TypeId × Value → H} {P : Program} {w : World} {ts : List TypeId} {ds : List (DataW H)} (hsz : (DataW.weightsEach P ts ds).all (· ≤ reachBytes) = true) {j : Nat} {t : TypeId} {v : Value} {d : DataW H} {p : List MemPlace}
    (ht : ts[j]? = some t) (hd : ds[j]? = some d) (h : DataW.Trod enc P w 0 (fun _ => true) true t v d p) : Op P w t v.cells.toList := by
  obtain ⟨fuel, hf⟩ := h
  refine ⟨H, enc, fuel, _, hf, fun n hn => ?_⟩
  have := List.all_eq_true.1 hsz _ (DataW.weights_mem_each ht hd n hn)
  simpa using this
end Go.Proofs.YtfkjgkgflkhbnaaDoor
