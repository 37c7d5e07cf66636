/-
 A map from texts to pointers, as a rising list of files: the map's datum told by the list, look-up, store and delete on it. No condition: plain lemmas, any program.
-/
import Derived.Test.YtnkbphecabnnaaaGreatDoorZGA
import Derived.Test.YtnkbphecabnnaaaGreatDoorZGL
import Derived.Maps.RangeWalk
import Derived.Sort.KeysCollected
namespace Go.Proofs.YtnkbphecabnnaaaGreatDoor
open Go.RowKit Go.Maps
set_option linter.unusedSimpArgs false
set_option linter.unusedVariables false

/-- How an element that is a pointer to a block's head reads: as the block's number. -/
def ptrElem (v : Value) : Option (DataW Unit × List MemPlace) :=
 match v with
 | .pointer (some ⟨b, 0, none⟩) => some (.lit (.int .i64 (b : Int)), [])
 | .pointer none => some (.lit (.bool false), [])
 | _ => none

theorem ptrElem_mk (b : Nat) : ptrElem (.pointer (some ⟨b, 0, none⟩)) = some (.lit (.int .i64 (b : Int)), []) := rfl
theorem ptrElem_nil : ptrElem (.pointer none) = some (.lit (.bool false), []) := rfl
theorem ptrElem_inv {v : Value} {b : Nat} {ps : List MemPlace} (h : ptrElem v = some (.lit (.int .i64 (b : Int)), ps)) : v = .pointer (some ⟨b, 0, none⟩) := by
 unfold ptrElem at h
 split at h
 ·simp only [Option.some.injEq, Prod.mk.injEq, DataW.lit.injEq, Lit.int.injEq] at h
  obtain ⟨⟨_, h⟩, _⟩ := h
  have : (‹Nat› : Nat) = b := by omega
  subst this; rfl
 ·simp at h
 ·simp at h
theorem ptrElem_inv_nil {v : Value} {ps : List MemPlace} (h : ptrElem v = some (.lit (.bool false), ps)) : v = .pointer none := by
 unfold ptrElem at h
 split at h
 ·simp at h
 ·rfl
 ·simp at h
theorem ptrElem_some {v : Value} {y : DataW Unit × List MemPlace} (h : ptrElem v = some y) : ∃ p : Option Nat, v = .pointer (p.map fun b => ⟨b, 0, none⟩) := by
 unfold ptrElem at h
 split at h
 ·exact ⟨some _, rfl⟩
 ·exact ⟨none, rfl⟩
 ·simp at h

/-- A file: its name, its block, what lasts, what is late. -/
structure Fil where
 n : List UInt8
 b : Nat
 d : List UInt8
 l : List UInt8

/-- The map of the files. -/
def ent (f : Fil) : Lit × DataW Unit := (.string f.n, .lit (.int .i64 (f.b : Int)))
def dat (L : List Fil) : DataW Unit := .map (L.map ent)
/-- The file of a name. -/
def fget (L : List Fil) (n : List UInt8) : Option Fil := L.find? fun f => f.n == n
def fins (x : Fil) : List Fil → List Fil
 | [] => [x]
 | y :: r => if bytesBefore x.n y.n then x :: y :: r else y :: fins x r
/-- Rising by name. -/
def Ris (L : List Fil) : Prop := L.Pairwise fun f g => bytesBefore f.n g.n = true

theorem dat_at (L : List Fil) (n : List UInt8) (z : DataW Unit) : (dat L).atKey (.string n) z = (match fget L n with | some f => .lit (.int .i64 (f.b : Int)) | none => z) := by
 unfold dat fget DataW.atKey
 simp only
 induction L with
 | nil => rfl
 | cons y r ih =>
  have e : (ent y).1.sameKey (.string n) = (y.n == n) := rfl
  simp only [List.map_cons, List.find?_cons, e]
  cases hy : (y.n == n)
  ·exact ih
  ·rfl

theorem dat_has (L : List Fil) (n : List UInt8) : Maps.has (dat L) (.string n) = (fget L n).isSome := by
 show (L.map ent).any (fun p => p.1.sameKey (.string n)) = _
 unfold fget
 induction L with
 | nil => rfl
 | cons y r ih =>
  have e : (ent y).1.sameKey (.string n) = (y.n == n) := rfl
  simp only [List.map_cons, List.any_cons, List.find?_cons, e]
  cases hy : (y.n == n)
  ·simpa using ih
  ·rfl

theorem dat_size (L : List Fil) : Maps.size (dat L) = L.length := by simp [dat, Maps.size]
theorem dat_keys (L : List Fil) : strKeys (dat L) = L.map Fil.n := by simp [dat, strKeys, ent, Function.comp_def, strOf]

theorem dat_put (L : List Fil) (x : Fil) (h : fget L x.n = none) : (dat L).put (.string x.n) (.lit (.int .i64 (x.b : Int))) = dat (fins x L) := by
 have hf : (L.map ent).filter (fun p => !p.1.sameKey (.string x.n)) = L.map ent := by
  refine List.filter_eq_self.2 fun p hp => ?_
  obtain ⟨f, hf, rfl⟩ := List.mem_map.1 hp
  have := List.find?_eq_none.1 h f hf
  have e : (ent f).1.sameKey (.string x.n) = (f.n == x.n) := rfl
  rw [e]; simpa using this
 show DataW.map (DataW.insert (ent x) ((L.map ent).filter fun p => !p.1.sameKey (.string x.n))) = _
 rw [hf]
 unfold dat
 congr 1
 clear h hf
 induction L with
 | nil => rfl
 | cons y r ih =>
  show (if bytesBefore x.n y.n then _ else _) = _
  unfold fins
  split
  ·rfl
  ·simp only [List.map_cons]; rw [← ih]

theorem dat_del (L : List Fil) (n : List UInt8) : (dat L).del (.string n) = dat (L.filter fun f => !(f.n == n)) := by
 show DataW.map ((L.map ent).filter fun p => !p.1.sameKey (.string n)) = _
 unfold dat
 rw [List.filter_map]
 rfl

theorem fget_some {L : List Fil} {n : List UInt8} {f : Fil} (h : fget L n = some f) : f.n = n ∧ ∃ A B, L = A ++ f :: B ∧ ∀ g ∈ A, g.n ≠ n := by
 obtain ⟨h1, A, B, rfl, h2⟩ := List.find?_eq_some_iff_append.1 h
 exact ⟨by simpa using h1, A, B, rfl, fun g hg => by simpa using h2 g hg⟩
theorem fget_none {L : List Fil} {n : List UInt8} (h : fget L n = none) : ∀ g ∈ L, g.n ≠ n := fun g hg => by simpa using List.find?_eq_none.1 h g hg
theorem fget_mid {A B : List Fil} {f : Fil} (h : Ris (A ++ f :: B)) : fget (A ++ f :: B) f.n = some f := by
 refine List.find?_eq_some_iff_append.2 ⟨by simp, A, B, rfl, fun g hg => ?_⟩
 obtain ⟨_, _, h3⟩ := List.pairwise_append.1 h
 have := h3 g hg f (by simp)
 simp only [Bool.not_eq_eq_eq_not, Bool.not_true, beq_eq_false_iff_ne, ne_eq]
 intro e
 rw [e, WideAt.bytes_irrefl] at this
 cases this

theorem fins_mem {x f : Fil} {L : List Fil} : f ∈ fins x L ↔ f = x ∨ f ∈ L := by
 induction L with
 | nil => simp [fins]
 | cons y r ih =>
  unfold fins
  split
  ·simp
  ·simp [ih]; constructor <;> (rintro (h | h | h) <;> simp [h])

theorem fins_split (x : Fil) : ∀ L : List Fil, ∃ A B, L = A ++ B ∧ fins x L = A ++ x :: B
 | [] => ⟨[], [], rfl, rfl⟩
 | y :: r => by
  unfold fins
  split
  ·exact ⟨[], y :: r, rfl, rfl⟩
  ·obtain ⟨A, B, h1, h2⟩ := fins_split x r
   exact ⟨y :: A, B, by simp [h1], by simp [h2]⟩

theorem fins_ris {x : Fil} : ∀ {L : List Fil}, Ris L → (∀ g ∈ L, g.n ≠ x.n) → Ris (fins x L)
 | [], _, _ => by simp [fins, Ris]
 | y :: r, h, hn => by
  obtain ⟨h1, h2⟩ := List.pairwise_cons.1 h
  unfold fins
  split
  ·rename_i hb
   refine List.pairwise_cons.2 ⟨fun g hg => ?_, h⟩
   rcases List.mem_cons.1 hg with rfl | hg
   ·exact hb
   ·exact WideShapes.bytes_trans _ _ _ hb (h1 g hg)
  ·rename_i hb
   have hy : bytesBefore y.n x.n = true := by
    rcases WideAt.bytes_total y.n x.n (hn y (by simp)) with h' | h'
    ·exact h'
    ·exact absurd h' hb
   refine List.pairwise_cons.2 ⟨fun g hg => ?_, fins_ris h2 fun g hg => hn g (by simp [hg])⟩
   rcases fins_mem.1 hg with rfl | hg
   ·exact hy
   ·exact h1 g hg

theorem ris_set {A B : List Fil} {f g : Fil} (h : Ris (A ++ f :: B)) (he : g.n = f.n) : Ris (A ++ g :: B) := by
 obtain ⟨h1, h2, h3⟩ := List.pairwise_append.1 h
 obtain ⟨h4, h5⟩ := List.pairwise_cons.1 h2
 refine List.pairwise_append.2 ⟨h1, List.pairwise_cons.2 ⟨fun x hx => by rw [he]; exact h4 x hx, h5⟩, fun a ha b hb => ?_⟩
 rcases List.mem_cons.1 hb with rfl | hb
 ·rw [he]; exact h3 a ha f (by simp)
 ·exact h3 a ha b (by simp [hb])
theorem del_mid {A B : List Fil} {f : Fil} (h : Ris (A ++ f :: B)) : (A ++ f :: B).filter (fun g => !(g.n == f.n)) = A ++ B := by
 obtain ⟨h1, h2, h3⟩ := List.pairwise_append.1 h
 obtain ⟨h4, h5⟩ := List.pairwise_cons.1 h2
 have ne : ∀ a b : List UInt8, bytesBefore a b = true → (a == b) = false := fun a b hb => by
  simp only [beq_eq_false_iff_ne, ne_eq]
  intro e
  rw [e, WideAt.bytes_irrefl] at hb
  cases hb
 rw [List.filter_append, List.filter_cons]
 simp only [beq_self_eq_true, Bool.not_true, Bool.false_eq_true, if_false]
 congr 1
 ·exact List.filter_eq_self.2 fun g hg => by rw [ne _ _ (h3 g hg f (by simp))]; rfl
 ·refine List.filter_eq_self.2 fun g hg => ?_
  have := h4 g hg
  have e : (g.n == f.n) = false := by
   simp only [beq_eq_false_iff_ne, ne_eq]
   intro e
   rw [e, WideAt.bytes_irrefl] at this
   cases this
  rw [e]; rfl

/-- Bytes in Go's order are Lean's. -/
theorem before_lt : ∀ a b : List UInt8, bytesBefore a b = true ↔ a < b
 | [], [] => by simp [bytesBefore]
 | [], _ :: _ => by simp [bytesBefore]
 | _ :: _, [] => by simp [bytesBefore]
 | a :: r, b :: s => by
  simp only [bytesBefore, Bool.or_eq_true, decide_eq_true_eq, Bool.and_eq_true, beq_iff_eq, List.cons_lt_cons_iff, before_lt r s]

theorem ris_sorted {L : List Fil} (h : Ris L) : (L.map Fil.n).mergeSort leB = L.map Fil.n := by
 refine List.mergeSort_of_pairwise (List.pairwise_map.2 (h.imp fun {f g} hb => ?_))
 have := (before_lt f.n g.n).1 hb
 simp only [leB, decide_eq_true_eq]
 exact List.le_of_lt this

section
variable {P : Program} {k e t : TypeId} {w : World} {m n : Nat} {L : List Fil}

theorem owns_size (h : w.ownsMap P k ptrElem m n (dat L)) : w.ownsMap P k ptrElem m L.length (dat L) := by
 obtain ⟨es, clock, hb, F, hs, hD⟩ := h
 refine ⟨es, clock, hb, F, ?_, hD⟩
 have := congrArg Maps.size hD
 rw [dat_size] at this
 simp [Maps.size, length_sorted] at this
 omega

/-- 'v, ok := m[k]'. -/
theorem owns_look_ok (h : w.ownsMap P k ptrElem m n (dat L)) (hk : P.underlying k = some .string) (ht : P.underlying t = some (.map k e)) (hz : (zeroValue e).run P w = .ok (.pointer none) w) (x : List UInt8) (hx : x.length ≤ maxLen) :
  (Instr.lookup t (.map (some m)) (Str x) true).run P w = .ok (match fget L x with | some f => .tuple #[.pointer (some ⟨f.b, 0, none⟩), .bool true] | none => .tuple #[.pointer none, .bool false]) w := by
 obtain ⟨v, ps, hrun, hv⟩ := h.look_ok (string_keyed hk) ht hz ptrElem_nil (WideMaps.keyOf_string_mk hk (s := ⟨x.toArray⟩) (by simpa [ByteArray.size] using hx))
 have hx' : (⟨x.toArray⟩ : ByteArray).data.toList = x := rfl
 rw [hx', dat_has] at hrun
 rw [hx', dat_at] at hv
 rw [hrun]
 cases hg : fget L x with
 | none => rw [hg] at hv; rw [ptrElem_inv_nil hv]; rfl
 | some f => rw [hg] at hv; rw [ptrElem_inv hv]; rfl

/-- 'm[k]'. -/
theorem owns_look (h : w.ownsMap P k ptrElem m n (dat L)) (hk : P.underlying k = some .string) (ht : P.underlying t = some (.map k e)) (hz : (zeroValue e).run P w = .ok (.pointer none) w) (x : List UInt8) (hx : x.length ≤ maxLen) :
  (Instr.lookup t (.map (some m)) (Str x) false).run P w = .ok (match fget L x with | some f => .pointer (some ⟨f.b, 0, none⟩) | none => .pointer none) w := by
 obtain ⟨v, ps, hrun, hv⟩ := h.lookup (string_keyed hk) ht hz ptrElem_nil (WideMaps.keyOf_string_mk hk (s := ⟨x.toArray⟩) (by simpa [ByteArray.size] using hx))
 have hx' : (⟨x.toArray⟩ : ByteArray).data.toList = x := rfl
 rw [hx', dat_at] at hv
 rw [hrun]
 cases hg : fget L x with
 | none => rw [hg] at hv; rw [ptrElem_inv_nil hv]
 | some f => rw [hg] at hv; rw [ptrElem_inv hv]

end

theorem turned_step {w w' : World} {m : Nat} (h : w.mapTurned w' m) : Step [m] [m] w w' := by
 have g := h.grown
 refine ⟨g.os, g.tape, g.output, g.size, fun k hk hn => g.block k hk (by simpa using fun e => hn (by simp [e])), fun k hk => .inl hk⟩

end Go.Proofs.YtnkbphecabnnaaaGreatDoor
namespace Go.Proofs.YtnkbphecabnnaaaGreatDoor
open Go.RowKit Go.Maps
set_option linter.unusedSimpArgs false
set_option linter.unusedVariables false

/-- A file without its block. -/
structure En where
  n : List UInt8
  d : List UInt8
  l : List UInt8
def Fil.en (f : Fil) : En := ⟨f.n, f.d, f.l⟩
structure St where
  E : List En
  room : Int
  fuse : Int
  off : Bool
def usedE (E : List En) : Nat := (E.map fun f => f.d.length + f.l.length).sum
def eget (E : List En) (n : List UInt8) : Option En := E.find? fun f => f.n == n
def eins (x : En) : List En → List En
  | [] => [x]
  | y :: r => if bytesBefore x.n y.n then x :: y :: r else y :: eins x r
def emod (E : List En) (n : List UInt8) (g : En → En) : List En := E.map fun f => if f.n == n then g f else f
def edel (E : List En) (n : List UInt8) : List En := E.filter fun f => !(f.n == n)
def ERis (E : List En) : Prop := E.Pairwise fun f g => bytesBefore f.n g.n = true
def addE (E : List En) (n b : List UInt8) : List En := match eget E n with | some _ => emod E n (fun f => ⟨f.n, f.d, f.l ++ b⟩) | none => eins ⟨n, [], b⟩ E
def St.burn (s : St) : St := ⟨s.E, s.room, if 0 < s.fuse then s.fuse - 1 else s.fuse, s.off || decide (s.fuse = 0)⟩
def newS (room : Int) : St := ⟨[], room, -1, false⟩
def appendS (s : St) (n b : List UInt8) : Int × St :=
  if s.off then (7, s) else if rightL n = false then (5, s) else if (usedE s.E : Int) + b.length > s.room then (6, s) else if s.burn.off then (7, s.burn) else (0, ⟨addE s.E n b, s.burn.room, s.burn.fuse, s.burn.off⟩)
def onFile (s : St) (n : List UInt8) (g : En → List En) : Int × St :=
  if s.off then (7, s) else match eget s.E n with | none => (8, s) | some f => if s.burn.off then (7, s.burn) else (0, ⟨g f, s.burn.room, s.burn.fuse, s.burn.off⟩)
def syncS (s : St) (n : List UInt8) : Int × St := onFile s n fun _ => emod s.E n fun f => ⟨f.n, f.d ++ f.l, []⟩
def cutF (k : Nat) (f : En) : En := if k ≤ f.d.length then ⟨f.n, f.d.take k, []⟩ else ⟨f.n, f.d, f.l.take (k - f.d.length)⟩
def cutS (s : St) (n : List UInt8) (k : Int) : Int × St :=
  if s.off then (7, s) else match eget s.E n with | none => (8, s) | some f => if k < 0 ∨ (f.d.length + f.l.length : Nat) < k then (1, s) else if s.burn.off then (7, s.burn) else (0, ⟨emod s.E n (cutF k.toNat), s.burn.room, s.burn.fuse, s.burn.off⟩)
def removeS (s : St) (n : List UInt8) : Int × St := onFile s n fun _ => edel s.E n
def readS (s : St) (n : List UInt8) : List UInt8 × Int := if s.off then ([], 7) else match eget s.E n with | none => ([], 8) | some f => (f.d ++ f.l, 0)
def namesS (s : St) : List (List UInt8) := if s.off then [] else s.E.map En.n
def usedS (s : St) : Nat := if s.off then 0 else usedE s.E
def fuseS (s : St) (n : Int) : St := ⟨s.E, s.room, max n (-1), s.off⟩
def okRoom (n : Int) : Bool := decide (0 ≤ n) && decide (n ≤ 8388608)
/-- How much of a late text is kept. -/
def keepK (keep : List Int) (i : Nat) (n : Nat) : Nat := ((keep.getD (i % keep.length) 0 % 18446744073709551616).toNat) % (n + 1)
def crashF (keep : List Int) (i : Nat) (f : En) : En := if f.l = [] then f else if keep = [] then ⟨f.n, f.d, []⟩ else ⟨f.n, f.d ++ f.l.take (keepK keep i f.l.length), []⟩
def crashE (keep : List Int) : Nat → List En → List En
  | _, [] => []
  | i, f :: r => crashF keep i f :: crashE keep (if f.l = [] then i else i + 1) r
def crashS (s : St) (keep : List Int) : St := ⟨crashE keep 0 s.E, s.room, -1, false⟩

theorem fget_en (L : List Fil) (n : List UInt8) : eget (L.map Fil.en) n = (fget L n).map Fil.en := by
  unfold eget fget
  rw [List.find?_map]
  rfl
theorem fins_en (x : Fil) (L : List Fil) : (fins x L).map Fil.en = eins x.en (L.map Fil.en) := by
  induction L with
  | nil => rfl
  | cons y r ih =>
    unfold fins
    show _ = (if bytesBefore x.n y.n then _ else _)
    split
    · rfl
    · simp only [List.map_cons]; rw [ih]
theorem ris_en {L : List Fil} : ERis (L.map Fil.en) ↔ Ris L := by
  unfold ERis Ris
  rw [List.pairwise_map]
  rfl
theorem used_cons (f : En) (E : List En) : usedE (f :: E) = f.d.length + f.l.length + usedE E := by simp [usedE]
theorem used_app (A B : List En) : usedE (A ++ B) = usedE A + usedE B := by simp [usedE]
theorem used_mid (A B : List En) (f : En) : usedE (A ++ f :: B) = usedE A + usedE B + (f.d.length + f.l.length) := by rw [used_app, used_cons]; omega
theorem used_mem {E : List En} {f : En} (h : f ∈ E) : f.d.length + f.l.length ≤ usedE E := by
  obtain ⟨A, B, rfl⟩ := List.append_of_mem h
  rw [used_mid]; omega
theorem bb_ne {a b : List UInt8} (h : bytesBefore a b = true) : (a == b) = false := by
  simp only [beq_eq_false_iff_ne, ne_eq]
  rintro rfl
  rw [WideAt.bytes_irrefl] at h
  cases h
theorem emod_miss {E : List En} {n : List UInt8} (h : ∀ f ∈ E, (f.n == n) = false) (g : En → En) : emod E n g = E := by
  unfold emod
  conv => rhs; rw [← List.map_id E]
  exact List.map_congr_left fun f hf => by rw [h f hf]; rfl
theorem emod_mid {A B : List En} {f : En} (h : ERis (A ++ f :: B)) (g : En → En) : emod (A ++ f :: B) f.n g = A ++ g f :: B := by
  obtain ⟨h1, h2, h3⟩ := List.pairwise_append.1 h
  obtain ⟨h4, h5⟩ := List.pairwise_cons.1 h2
  have e1 : emod A f.n g = A := emod_miss (fun x hx => bb_ne (h3 x hx f (by simp))) g
  have e2 : emod B f.n g = B := emod_miss (fun x hx => by have := bb_ne (h4 x hx); simp only [beq_eq_false_iff_ne, ne_eq] at this ⊢; exact fun e => this e.symm) g
  unfold emod at *
  rw [List.map_append, List.map_cons, e1, e2]
  simp
theorem edel_mid {A B : List En} {f : En} (h : ERis (A ++ f :: B)) : edel (A ++ f :: B) f.n = A ++ B := by
  obtain ⟨h1, h2, h3⟩ := List.pairwise_append.1 h
  obtain ⟨h4, h5⟩ := List.pairwise_cons.1 h2
  unfold edel
  rw [List.filter_append, List.filter_cons]
  simp only [beq_self_eq_true, Bool.not_true, Bool.false_eq_true, if_false]
  congr 1
  · exact List.filter_eq_self.2 fun g hg => by rw [bb_ne (h3 g hg f (by simp))]; rfl
  · refine List.filter_eq_self.2 fun g hg => ?_
    have := bb_ne (h4 g hg)
    simp only [beq_eq_false_iff_ne, ne_eq] at this
    simp only [Bool.not_eq_eq_eq_not, Bool.not_true, beq_eq_false_iff_ne, ne_eq]
    exact fun e => this e.symm
theorem eget_mem {E : List En} {n : List UInt8} {f : En} (h : eget E n = some f) : f ∈ E ∧ f.n = n := ⟨List.mem_of_find?_eq_some h, by simpa using List.find?_some h⟩
theorem eins_split (x : En) : ∀ E : List En, ∃ A B, E = A ++ B ∧ eins x E = A ++ x :: B
  | [] => ⟨[], [], rfl, rfl⟩
  | y :: r => by
    unfold eins
    split
    · exact ⟨[], y :: r, rfl, rfl⟩
    · obtain ⟨A, B, h1, h2⟩ := eins_split x r
      exact ⟨y :: A, B, by simp [h1], by simp [h2]⟩
theorem eget_split {E : List En} {n : List UInt8} {f : En} (h : eget E n = some f) : f.n = n ∧ ∃ A B, E = A ++ f :: B := by
  obtain ⟨h1, A, B, rfl, h2⟩ := List.find?_eq_some_iff_append.1 h
  exact ⟨by simpa using h1, A, B, rfl⟩
theorem used_add {E : List En} (hr : ERis E) (n b : List UInt8) : usedE (addE E n b) = usedE E + b.length := by
  unfold addE
  cases hg : eget E n with
  | none =>
    obtain ⟨A, B, rfl, h2⟩ := eins_split ⟨n, [], b⟩ E
    simp only
    rw [h2, used_mid, used_app]
    simp
  | some f =>
    obtain ⟨rfl, A, B, rfl⟩ := eget_split hg
    simp only
    rw [emod_mid hr, used_mid, used_mid]
    simp; omega
theorem len_add (E : List En) (n b : List UInt8) : (addE E n b).length ≤ E.length + 1 := by
  unfold addE
  cases hg : eget E n with
  | none =>
    obtain ⟨A, B, rfl, h2⟩ := eins_split ⟨n, [], b⟩ E
    simp only
    rw [h2]; simp; omega
  | some f => simp [emod]

end Go.Proofs.YtnkbphecabnnaaaGreatDoor
namespace Go.Proofs.YtnkbphecabnnaaaGreatDoor
open Go.RowKit Go.Maps
set_option linter.unusedSimpArgs false
set_option linter.unusedVariables false

theorem Step.of_grown {w w1 w' : World} {S S' : List Nat} (h : Step S S' w w1) {row : Option Nat} (hg : w1.grownBy w' row) (hr : ∀ j, row = some j → j ∈ S' ∨ w.heap.size ≤ j) : Step S S' w w' :=
  ⟨hg.os.trans h.os, hg.tape.trans h.tape, hg.output.trans h.output, Nat.le_trans h.size hg.size, fun k hk hn => (hg.block k (Nat.lt_of_lt_of_le hk h.size) (by
    intro e
    rcases hr k e.symm with h1 | h1
    · rcases h.fresh k h1 with h2 | h2
      · exact hn h2
      · omega
    · omega)).trans (h.block k hk hn), h.fresh⟩

def sizeU (L : List Fil) (n : List UInt8) : Nat := match fget L n with | some f => f.d.length + f.l.length | none => 0
def sumU (L : List Fil) (ss : List (List UInt8)) : Nat := (ss.map (sizeU L)).sum
theorem ris_nodup {L : List Fil} (h : Ris L) : (L.map Fil.n).Nodup := by
  refine List.pairwise_map.2 (h.imp fun {f g} hb e => ?_)
  rw [e, WideAt.bytes_irrefl] at hb
  cases hb
theorem fget_isSome {L : List Fil} {x : List UInt8} : (fget L x).isSome = true ↔ x ∈ L.map Fil.n := by
  unfold fget
  rw [List.find?_isSome, List.mem_map]
  constructor
  · rintro ⟨f, hf, he⟩; exact ⟨f, hf, by simpa using he⟩
  · rintro ⟨f, hf, he⟩; exact ⟨f, hf, by simpa using he⟩
theorem coll_perm {L : List Fil} {left : Lit → Bool} {ss : List (List UInt8)} (h : Collected (dat L) left ss) (hr : Ris L) :
    (ss ++ (L.map Fil.n).filter fun x => left (.string x)).Perm (L.map Fil.n) := by
  have hn := ris_nodup hr
  have hm : ∀ x, x ∈ ss ↔ x ∈ L.map Fil.n ∧ left (.string x) = false := fun x => by rw [h.2 x, dat_has, fget_isSome]
  refine (List.perm_ext_iff_of_nodup (List.nodup_append.2 ⟨h.1, hn.filter _, fun a ha b hb => ?_⟩) hn).2 fun x => ?_
  · rintro rfl
    have h1 := ((hm a).1 ha).2
    have h2 := (List.mem_filter.1 hb).2
    simp only [h1] at h2
    cases h2
  · rw [List.mem_append, hm x, List.mem_filter]
    cases hl : left (.string x) <;> simp
theorem sumU_app (L : List Fil) (a b : List (List UInt8)) : sumU L (a ++ b) = sumU L a + sumU L b := by simp [sumU]
theorem sizeU_mem {L : List Fil} (h : Ris L) {f : Fil} (hf : f ∈ L) : sizeU L f.n = f.d.length + f.l.length := by
  obtain ⟨A, B, rfl⟩ := List.append_of_mem hf
  unfold sizeU
  rw [fget_mid h]
theorem sumU_all {L : List Fil} (h : Ris L) : sumU L (L.map Fil.n) = usedE (L.map Fil.en) := by
  unfold sumU usedE
  rw [List.map_map, List.map_map]
  congr 1
  exact List.map_congr_left fun f hf => sizeU_mem h hf
theorem sumU_le {L : List Fil} {left : Lit → Bool} {ss : List (List UInt8)} (h : Collected (dat L) left ss) (hr : Ris L) : sumU L ss ≤ usedE (L.map Fil.en) := by
  have hp := (coll_perm h hr).map (sizeU L)
  have hs := hp.sum_nat
  have e : sumU L (ss ++ (L.map Fil.n).filter fun x => left (.string x)) = sumU L (L.map Fil.n) := hs
  rw [sumU_app, sumU_all hr] at e
  omega
theorem sumU_end {L : List Fil} {left : Lit → Bool} {ss : List (List UInt8)} (h : Collected (dat L) left ss) (hr : Ris L) (hl : ∀ kl, left kl = false) : sumU L ss = usedE (L.map Fil.en) := by
  have hp := (coll_perm h hr).map (sizeU L)
  have hs := hp.sum_nat
  have e : sumU L (ss ++ (L.map Fil.n).filter fun x => left (.string x)) = sumU L (L.map Fil.n) := hs
  rw [sumU_app, sumU_all hr, show ((L.map Fil.n).filter fun x => left (.string x)) = [] from by simp [hl]] at e
  exact e
/-- An entry of the map is a file. -/
theorem dat_entry {L : List Fil} {x : List UInt8} {p : Option Nat} {y : DataW Unit × List MemPlace} (hv : ptrElem (.pointer (p.map fun b => ⟨b, 0, none⟩)) = some y) (hat : ∀ zd, (dat L).atKey (.string x) zd = y.1) : ∃ f ∈ L, f.n = x ∧ p = some f.b := by
  have h1 := hat (.lit (.bool true))
  rw [dat_at] at h1
  cases hg : fget L x with
  | none =>
    rw [hg] at h1
    simp only at h1
    have h2 := hat (.lit (.bool false))
    rw [dat_at, hg] at h2
    simp only at h2
    rw [← h2] at h1
    simp at h1
  | some f =>
    rw [hg] at h1
    obtain ⟨hn, A, B, rfl, _⟩ := fget_some hg
    refine ⟨f, by simp, hn, ?_⟩
    simp only at h1
    have h3 := ptrElem_inv (b := f.b) (ps := y.2) (v := .pointer (p.map fun b => ⟨b, 0, none⟩)) (by rw [hv, h1])
    cases p with
    | none => simp at h3
    | some b => simp at h3; simp [h3]
end Go.Proofs.YtnkbphecabnnaaaGreatDoor
