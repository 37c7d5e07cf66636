/-
  A map from texts to pointers, as a rising list of files: the map's datum told by the list, look-up, store and delete on it. No condition: plain lemmas, any program.
-/
import Derived.Maps.RangeWalk
import Derived.Sort.KeysCollected
import Derived.Test.YtfkjgkgflkhbnaaDoorLib
namespace Go.Proofs.YtfkjgkgflkhbnaaDoor
open Go.RowKit Go.Maps
set_option linter.unusedSimpArgs false
set_option linter.unusedVariables false

/-- How an element that is a pointer to a block's head reads: as the block's number. -/
def ptrElem (v : Value) : Option (DataW Unit × List MemPlace) :=
  match v with
  | .pointer (some ⟨b, 0, none⟩) => some (.lit (.int .i64 (b : Int)), [])
  | .pointer none => some (.lit (.bool false), [])
  | _ => none

theorem ptrElem_mk (b : Nat) : ptrElem (.pointer (some ⟨b, 0, none⟩)) = some (.lit (.int .i64 (b : Int)), []) := rfl
theorem ptrElem_nil : ptrElem (.pointer none) = some (.lit (.bool false), []) := rfl
theorem ptrElem_inv {v : Value} {b : Nat} {ps : List MemPlace} (h : ptrElem v = some (.lit (.int .i64 (b : Int)), ps)) : v = .pointer (some ⟨b, 0, none⟩) := by
  unfold ptrElem at h
  split at h
  · simp only [Option.some.injEq, Prod.mk.injEq, DataW.lit.injEq, Lit.int.injEq] at h
    obtain ⟨⟨_, h⟩, _⟩ := h
    have : (‹Nat› : Nat) = b := by omega
    subst this; rfl
  · simp at h
  · simp at h
theorem ptrElem_inv_nil {v : Value} {ps : List MemPlace} (h : ptrElem v = some (.lit (.bool false), ps)) : v = .pointer none := by
  unfold ptrElem at h
  split at h
  · simp at h
  · rfl
  · simp at h
theorem ptrElem_some {v : Value} {y : DataW Unit × List MemPlace} (h : ptrElem v = some y) : ∃ p : Option Nat, v = .pointer (p.map fun b => ⟨b, 0, none⟩) := by
  unfold ptrElem at h
  split at h
  · exact ⟨some _, rfl⟩
  · exact ⟨none, rfl⟩
  · simp at h

/-- A file: its name, its block, what lasts, what is late. -/
structure Fil where
  n : List UInt8
  b : Nat
  d : List UInt8
  l : List UInt8

/-- The map of the files. -/
def ent (f : Fil) : Lit × DataW Unit := (.string f.n, .lit (.int .i64 (f.b : Int)))
def dat (L : List Fil) : DataW Unit := .map (L.map ent)
/-- The file of a name. -/
def fget (L : List Fil) (n : List UInt8) : Option Fil := L.find? fun f => f.n == n
def fins (x : Fil) : List Fil → List Fil
  | [] => [x]
  | y :: r => if bytesBefore x.n y.n then x :: y :: r else y :: fins x r
/-- Rising by name. -/
def Ris (L : List Fil) : Prop := L.Pairwise fun f g => bytesBefore f.n g.n = true

theorem dat_at (L : List Fil) (n : List UInt8) (z : DataW Unit) : (dat L).atKey (.string n) z = (match fget L n with | some f => .lit (.int .i64 (f.b : Int)) | none => z) := by
  unfold dat fget DataW.atKey
  simp only
  induction L with
  | nil => rfl
  | cons y r ih =>
    have e : (ent y).1.sameKey (.string n) = (y.n == n) := rfl
    simp only [List.map_cons, List.find?_cons, e]
    cases hy : (y.n == n)
    · exact ih
    · rfl

theorem dat_has (L : List Fil) (n : List UInt8) : Maps.has (dat L) (.string n) = (fget L n).isSome := by
  show (L.map ent).any (fun p => p.1.sameKey (.string n)) = _
  unfold fget
  induction L with
  | nil => rfl
  | cons y r ih =>
    have e : (ent y).1.sameKey (.string n) = (y.n == n) := rfl
    simp only [List.map_cons, List.any_cons, List.find?_cons, e]
    cases hy : (y.n == n)
    · simpa using ih
    · rfl

theorem dat_size (L : List Fil) : Maps.size (dat L) = L.length := by simp [dat, Maps.size]
theorem dat_keys (L : List Fil) : strKeys (dat L) = L.map Fil.n := by simp [dat, strKeys, ent, Function.comp_def, strOf]

theorem dat_put (L : List Fil) (x : Fil) (h : fget L x.n = none) : (dat L).put (.string x.n) (.lit (.int .i64 (x.b : Int))) = dat (fins x L) := by
  have hf : (L.map ent).filter (fun p => !p.1.sameKey (.string x.n)) = L.map ent := by
    refine List.filter_eq_self.2 fun p hp => ?_
    obtain ⟨f, hf, rfl⟩ := List.mem_map.1 hp
    have := List.find?_eq_none.1 h f hf
    have e : (ent f).1.sameKey (.string x.n) = (f.n == x.n) := rfl
    rw [e]; simpa using this
  show DataW.map (DataW.insert (ent x) ((L.map ent).filter fun p => !p.1.sameKey (.string x.n))) = _
  rw [hf]
  unfold dat
  congr 1
  clear h hf
  induction L with
  | nil => rfl
  | cons y r ih =>
    show (if bytesBefore x.n y.n then _ else _) = _
    unfold fins
    split
    · rfl
    · simp only [List.map_cons]; rw [← ih]

theorem dat_del (L : List Fil) (n : List UInt8) : (dat L).del (.string n) = dat (L.filter fun f => !(f.n == n)) := by
  show DataW.map ((L.map ent).filter fun p => !p.1.sameKey (.string n)) = _
  unfold dat
  rw [List.filter_map]
  rfl

theorem fget_some {L : List Fil} {n : List UInt8} {f : Fil} (h : fget L n = some f) : f.n = n ∧ ∃ A B, L = A ++ f :: B ∧ ∀ g ∈ A, g.n ≠ n := by
  obtain ⟨h1, A, B, rfl, h2⟩ := List.find?_eq_some_iff_append.1 h
  exact ⟨by simpa using h1, A, B, rfl, fun g hg => by simpa using h2 g hg⟩
theorem fget_none {L : List Fil} {n : List UInt8} (h : fget L n = none) : ∀ g ∈ L, g.n ≠ n := fun g hg => by simpa using List.find?_eq_none.1 h g hg
theorem fget_mid {A B : List Fil} {f : Fil} (h : Ris (A ++ f :: B)) : fget (A ++ f :: B) f.n = some f := by
  refine List.find?_eq_some_iff_append.2 ⟨by simp, A, B, rfl, fun g hg => ?_⟩
  obtain ⟨_, _, h3⟩ := List.pairwise_append.1 h
  have := h3 g hg f (by simp)
  simp only [Bool.not_eq_eq_eq_not, Bool.not_true, beq_eq_false_iff_ne, ne_eq]
  intro e
  rw [e, WideAt.bytes_irrefl] at this
  cases this

theorem fins_mem {x f : Fil} {L : List Fil} : f ∈ fins x L ↔ f = x ∨ f ∈ L := by
  induction L with
  | nil => simp [fins]
  | cons y r ih =>
    unfold fins
    split
    · simp
    · simp [ih]; constructor <;> (rintro (h | h | h) <;> simp [h])

theorem fins_split (x : Fil) : ∀ L : List Fil, ∃ A B, L = A ++ B ∧ fins x L = A ++ x :: B
  | [] => ⟨[], [], rfl, rfl⟩
  | y :: r => by
    unfold fins
    split
    · exact ⟨[], y :: r, rfl, rfl⟩
    · obtain ⟨A, B, h1, h2⟩ := fins_split x r
      exact ⟨y :: A, B, by simp [h1], by simp [h2]⟩

theorem fins_ris {x : Fil} : ∀ {L : List Fil}, Ris L → (∀ g ∈ L, g.n ≠ x.n) → Ris (fins x L)
  | [], _, _ => by simp [fins, Ris]
  | y :: r, h, hn => by
    obtain ⟨h1, h2⟩ := List.pairwise_cons.1 h
    unfold fins
    split
    · rename_i hb
      refine List.pairwise_cons.2 ⟨fun g hg => ?_, h⟩
      rcases List.mem_cons.1 hg with rfl | hg
      · exact hb
      · exact WideShapes.bytes_trans _ _ _ hb (h1 g hg)
    · rename_i hb
      have hy : bytesBefore y.n x.n = true := by
        rcases WideAt.bytes_total y.n x.n (hn y (by simp)) with h' | h'
        · exact h'
        · exact absurd h' hb
      refine List.pairwise_cons.2 ⟨fun g hg => ?_, fins_ris h2 fun g hg => hn g (by simp [hg])⟩
      rcases fins_mem.1 hg with rfl | hg
      · exact hy
      · exact h1 g hg

theorem ris_filter {L : List Fil} (h : Ris L) (p : Fil → Bool) : Ris (L.filter p) := List.Pairwise.filter p h
theorem ris_set {A B : List Fil} {f g : Fil} (h : Ris (A ++ f :: B)) (he : g.n = f.n) : Ris (A ++ g :: B) := by
  obtain ⟨h1, h2, h3⟩ := List.pairwise_append.1 h
  obtain ⟨h4, h5⟩ := List.pairwise_cons.1 h2
  refine List.pairwise_append.2 ⟨h1, List.pairwise_cons.2 ⟨fun x hx => by rw [he]; exact h4 x hx, h5⟩, fun a ha b hb => ?_⟩
  rcases List.mem_cons.1 hb with rfl | hb
  · rw [he]; exact h3 a ha f (by simp)
  · exact h3 a ha b (by simp [hb])
theorem del_mid {A B : List Fil} {f : Fil} (h : Ris (A ++ f :: B)) : (A ++ f :: B).filter (fun g => !(g.n == f.n)) = A ++ B := by
  obtain ⟨h1, h2, h3⟩ := List.pairwise_append.1 h
  obtain ⟨h4, h5⟩ := List.pairwise_cons.1 h2
  have ne : ∀ a b : List UInt8, bytesBefore a b = true → (a == b) = false := fun a b hb => by
    simp only [beq_eq_false_iff_ne, ne_eq]
    intro e
    rw [e, WideAt.bytes_irrefl] at hb
    cases hb
  rw [List.filter_append, List.filter_cons]
  simp only [beq_self_eq_true, Bool.not_true, Bool.false_eq_true, if_false]
  congr 1
  · exact List.filter_eq_self.2 fun g hg => by rw [ne _ _ (h3 g hg f (by simp))]; rfl
  · refine List.filter_eq_self.2 fun g hg => ?_
    have := h4 g hg
    have e : (g.n == f.n) = false := by
      simp only [beq_eq_false_iff_ne, ne_eq]
      intro e
      rw [e, WideAt.bytes_irrefl] at this
      cases this
    rw [e]; rfl

/-- Bytes in Go's order are Lean's. -/
theorem before_lt : ∀ a b : List UInt8, bytesBefore a b = true ↔ a < b
  | [], [] => by simp [bytesBefore]
  | [], _ :: _ => by simp [bytesBefore]
  | _ :: _, [] => by simp [bytesBefore]
  | a :: r, b :: s => by
    simp only [bytesBefore, Bool.or_eq_true, decide_eq_true_eq, Bool.and_eq_true, beq_iff_eq, List.cons_lt_cons_iff, before_lt r s]

theorem ris_sorted {L : List Fil} (h : Ris L) : (L.map Fil.n).mergeSort leB = L.map Fil.n := by
  refine List.mergeSort_of_pairwise (List.pairwise_map.2 (h.imp fun {f g} hb => ?_))
  have := (before_lt f.n g.n).1 hb
  simp only [leB, decide_eq_true_eq]
  exact List.le_of_lt this

section
variable {P : Program} {k e t : TypeId} {w : World} {m n : Nat} {L : List Fil}

theorem owns_size (h : w.ownsMap P k ptrElem m n (dat L)) : w.ownsMap P k ptrElem m L.length (dat L) := by
  obtain ⟨es, clock, hb, F, hs, hD⟩ := h
  refine ⟨es, clock, hb, F, ?_, hD⟩
  have := congrArg Maps.size hD
  rw [dat_size] at this
  simp [Maps.size, length_sorted] at this
  omega

/-- 'v, ok := m[k]'. -/
theorem owns_look_ok (h : w.ownsMap P k ptrElem m n (dat L)) (hk : P.underlying k = some .string) (ht : P.underlying t = some (.map k e)) (hz : (zeroValue e).run P w = .ok (.pointer none) w) (x : List UInt8) (hx : x.length ≤ maxLen) :
    (Instr.lookup t (.map (some m)) (Str x) true).run P w = .ok (match fget L x with | some f => .tuple #[.pointer (some ⟨f.b, 0, none⟩), .bool true] | none => .tuple #[.pointer none, .bool false]) w := by
  obtain ⟨v, ps, hrun, hv⟩ := h.look_ok (string_keyed hk) ht hz ptrElem_nil (WideMaps.keyOf_string_mk hk (s := ⟨x.toArray⟩) (by simpa [ByteArray.size] using hx))
  have hx' : (⟨x.toArray⟩ : ByteArray).data.toList = x := rfl
  rw [hx', dat_has] at hrun
  rw [hx', dat_at] at hv
  rw [hrun]
  cases hg : fget L x with
  | none => rw [hg] at hv; rw [ptrElem_inv_nil hv]; rfl
  | some f => rw [hg] at hv; rw [ptrElem_inv hv]; rfl

/-- 'm[k]'. -/
theorem owns_look (h : w.ownsMap P k ptrElem m n (dat L)) (hk : P.underlying k = some .string) (ht : P.underlying t = some (.map k e)) (hz : (zeroValue e).run P w = .ok (.pointer none) w) (x : List UInt8) (hx : x.length ≤ maxLen) :
    (Instr.lookup t (.map (some m)) (Str x) false).run P w = .ok (match fget L x with | some f => .pointer (some ⟨f.b, 0, none⟩) | none => .pointer none) w := by
  obtain ⟨v, ps, hrun, hv⟩ := h.lookup (string_keyed hk) ht hz ptrElem_nil (WideMaps.keyOf_string_mk hk (s := ⟨x.toArray⟩) (by simpa [ByteArray.size] using hx))
  have hx' : (⟨x.toArray⟩ : ByteArray).data.toList = x := rfl
  rw [hx', dat_at] at hv
  rw [hrun]
  cases hg : fget L x with
  | none => rw [hg] at hv; rw [ptrElem_inv_nil hv]
  | some f => rw [hg] at hv; rw [ptrElem_inv hv]

/-- 'm[k] = p', the key not there. -/
theorem owns_store (h : w.ownsMap P k ptrElem m n (dat L)) (hk : P.underlying k = some .string) (ht : P.underlying t = some (.map k e)) (hL : L.length < maxLen) (x : Fil) (hx : x.n.length ≤ maxLen) (hn : fget L x.n = none) :
    ∃ w', (Instr.mapUpdate t (.map (some m)) (Str x.n) (.pointer (some ⟨x.b, 0, none⟩))).run P w = .ok () w' ∧ w'.ownsMap P k ptrElem m (L.length + 1) (dat (fins x L)) ∧ w.mapTurned w' m := by
  obtain ⟨w', hrun, h1, h2⟩ := (owns_size h).store (string_keyed hk) ht hL (WideMaps.keyOf_string_mk hk (s := ⟨x.n.toArray⟩) (by simpa [ByteArray.size] using hx)) (ptrElem_mk x.b)
  have hx' : (⟨x.n.toArray⟩ : ByteArray).data.toList = x.n := rfl
  rw [hx', dat_put L x hn] at h1
  exact ⟨w', hrun, h1, h2⟩

/-- 'delete(m, k)'. -/
theorem owns_drop (h : w.ownsMap P k ptrElem m n (dat L)) (hk : P.underlying k = some .string) (ht : P.underlying t = some (.map k e)) (x : List UInt8) (hx : x.length ≤ maxLen) (ty : TypeId) :
    ∃ w', (Builtin.delete_ #[t, k] ty #[.map (some m), Str x]).run P w = .ok (.tuple #[]) w' ∧ w'.ownsMap P k ptrElem m n (dat (L.filter fun f => !(f.n == x))) ∧ w.mapTurned w' m := by
  obtain ⟨w', hrun, h1, h2⟩ := h.drop (string_keyed hk) ht (WideMaps.keyOf_string_mk hk (s := ⟨x.toArray⟩) (by simpa [ByteArray.size] using hx)) ty
  have hx' : (⟨x.toArray⟩ : ByteArray).data.toList = x := rfl
  rw [hx', dat_del] at h1
  exact ⟨w', hrun, h1, h2⟩
end

theorem turned_step {w w' : World} {m : Nat} (h : w.mapTurned w' m) : Step [m] [m] w w' := by
  have g := h.grown
  refine ⟨g.os, g.tape, g.output, g.size, fun k hk hn => g.block k hk (by simpa using fun e => hn (by simp [e])), fun k hk => .inl hk⟩

end Go.Proofs.YtfkjgkgflkhbnaaDoor
