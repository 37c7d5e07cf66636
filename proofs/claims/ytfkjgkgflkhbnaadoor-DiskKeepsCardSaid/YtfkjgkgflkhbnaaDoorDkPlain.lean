/-
  Chapter 6 in plain words: a disk as a rising list of files, a room, a fuse, and whether it is off; what each operation makes of it. No program in sight.
-/
import Derived.Test.YtfkjgkgflkhbnaaDoorDkMap
import Derived.Test.YtfkjgkgflkhbnaaDoorNamePieces
namespace Go.Proofs.YtfkjgkgflkhbnaaDoor
open Go.RowKit Go.Maps
set_option linter.unusedSimpArgs false
set_option linter.unusedVariables false

/-- A file without its block. -/
structure En where
  n : List UInt8
  d : List UInt8
  l : List UInt8
def Fil.en (f : Fil) : En := ⟨f.n, f.d, f.l⟩
structure St where
  E : List En
  room : Int
  fuse : Int
  off : Bool
def usedE (E : List En) : Nat := (E.map fun f => f.d.length + f.l.length).sum
def eget (E : List En) (n : List UInt8) : Option En := E.find? fun f => f.n == n
def eins (x : En) : List En → List En
  | [] => [x]
  | y :: r => if bytesBefore x.n y.n then x :: y :: r else y :: eins x r
def emod (E : List En) (n : List UInt8) (g : En → En) : List En := E.map fun f => if f.n == n then g f else f
def edel (E : List En) (n : List UInt8) : List En := E.filter fun f => !(f.n == n)
def ERis (E : List En) : Prop := E.Pairwise fun f g => bytesBefore f.n g.n = true
def addE (E : List En) (n b : List UInt8) : List En := match eget E n with | some _ => emod E n (fun f => ⟨f.n, f.d, f.l ++ b⟩) | none => eins ⟨n, [], b⟩ E
def St.burn (s : St) : St := ⟨s.E, s.room, if 0 < s.fuse then s.fuse - 1 else s.fuse, s.off || decide (s.fuse = 0)⟩
def newS (room : Int) : St := ⟨[], room, -1, false⟩
def appendS (s : St) (n b : List UInt8) : Int × St :=
  if s.off then (7, s) else if rightL n = false then (5, s) else if (usedE s.E : Int) + b.length > s.room then (6, s) else if s.burn.off then (7, s.burn) else (0, ⟨addE s.E n b, s.burn.room, s.burn.fuse, s.burn.off⟩)
def onFile (s : St) (n : List UInt8) (g : En → List En) : Int × St :=
  if s.off then (7, s) else match eget s.E n with | none => (8, s) | some f => if s.burn.off then (7, s.burn) else (0, ⟨g f, s.burn.room, s.burn.fuse, s.burn.off⟩)
def syncS (s : St) (n : List UInt8) : Int × St := onFile s n fun _ => emod s.E n fun f => ⟨f.n, f.d ++ f.l, []⟩
def cutF (k : Nat) (f : En) : En := if k ≤ f.d.length then ⟨f.n, f.d.take k, []⟩ else ⟨f.n, f.d, f.l.take (k - f.d.length)⟩
def cutS (s : St) (n : List UInt8) (k : Int) : Int × St :=
  if s.off then (7, s) else match eget s.E n with | none => (8, s) | some f => if k < 0 ∨ (f.d.length + f.l.length : Nat) < k then (1, s) else if s.burn.off then (7, s.burn) else (0, ⟨emod s.E n (cutF k.toNat), s.burn.room, s.burn.fuse, s.burn.off⟩)
def removeS (s : St) (n : List UInt8) : Int × St := onFile s n fun _ => edel s.E n
def readS (s : St) (n : List UInt8) : List UInt8 × Int := if s.off then ([], 7) else match eget s.E n with | none => ([], 8) | some f => (f.d ++ f.l, 0)
def namesS (s : St) : List (List UInt8) := if s.off then [] else s.E.map En.n
def usedS (s : St) : Nat := if s.off then 0 else usedE s.E
def fuseS (s : St) (n : Int) : St := ⟨s.E, s.room, max n (-1), s.off⟩
def okRoom (n : Int) : Bool := decide (0 ≤ n) && decide (n ≤ 8388608)
def roomS (s : St) (n : Int) : Int × St := if okRoom n then (0, ⟨s.E, n, s.fuse, s.off⟩) else (1, s)
/-- How much of a late text is kept. -/
def keepK (keep : List Int) (i : Nat) (n : Nat) : Nat := ((keep.getD (i % keep.length) 0 % 18446744073709551616).toNat) % (n + 1)
def crashF (keep : List Int) (i : Nat) (f : En) : En := if f.l = [] then f else if keep = [] then ⟨f.n, f.d, []⟩ else ⟨f.n, f.d ++ f.l.take (keepK keep i f.l.length), []⟩
def crashE (keep : List Int) : Nat → List En → List En
  | _, [] => []
  | i, f :: r => crashF keep i f :: crashE keep (if f.l = [] then i else i + 1) r
def crashS (s : St) (keep : List Int) : St := ⟨crashE keep 0 s.E, s.room, -1, false⟩

theorem fget_en (L : List Fil) (n : List UInt8) : eget (L.map Fil.en) n = (fget L n).map Fil.en := by
  unfold eget fget
  rw [List.find?_map]
  rfl
theorem fins_en (x : Fil) (L : List Fil) : (fins x L).map Fil.en = eins x.en (L.map Fil.en) := by
  induction L with
  | nil => rfl
  | cons y r ih =>
    unfold fins
    show _ = (if bytesBefore x.n y.n then _ else _)
    split
    · rfl
    · simp only [List.map_cons]; rw [ih]
theorem ris_en {L : List Fil} : ERis (L.map Fil.en) ↔ Ris L := by
  unfold ERis Ris
  rw [List.pairwise_map]
  rfl
theorem used_cons (f : En) (E : List En) : usedE (f :: E) = f.d.length + f.l.length + usedE E := by simp [usedE]
theorem used_app (A B : List En) : usedE (A ++ B) = usedE A + usedE B := by simp [usedE]
theorem used_mid (A B : List En) (f : En) : usedE (A ++ f :: B) = usedE A + usedE B + (f.d.length + f.l.length) := by rw [used_app, used_cons]; omega
theorem used_mem {E : List En} {f : En} (h : f ∈ E) : f.d.length + f.l.length ≤ usedE E := by
  obtain ⟨A, B, rfl⟩ := List.append_of_mem h
  rw [used_mid]; omega
theorem bb_ne {a b : List UInt8} (h : bytesBefore a b = true) : (a == b) = false := by
  simp only [beq_eq_false_iff_ne, ne_eq]
  rintro rfl
  rw [WideAt.bytes_irrefl] at h
  cases h
theorem emod_miss {E : List En} {n : List UInt8} (h : ∀ f ∈ E, (f.n == n) = false) (g : En → En) : emod E n g = E := by
  unfold emod
  conv => rhs; rw [← List.map_id E]
  exact List.map_congr_left fun f hf => by rw [h f hf]; rfl
theorem emod_mid {A B : List En} {f : En} (h : ERis (A ++ f :: B)) (g : En → En) : emod (A ++ f :: B) f.n g = A ++ g f :: B := by
  obtain ⟨h1, h2, h3⟩ := List.pairwise_append.1 h
  obtain ⟨h4, h5⟩ := List.pairwise_cons.1 h2
  have e1 : emod A f.n g = A := emod_miss (fun x hx => bb_ne (h3 x hx f (by simp))) g
  have e2 : emod B f.n g = B := emod_miss (fun x hx => by have := bb_ne (h4 x hx); simp only [beq_eq_false_iff_ne, ne_eq] at this ⊢; exact fun e => this e.symm) g
  unfold emod at *
  rw [List.map_append, List.map_cons, e1, e2]
  simp
theorem edel_mid {A B : List En} {f : En} (h : ERis (A ++ f :: B)) : edel (A ++ f :: B) f.n = A ++ B := by
  obtain ⟨h1, h2, h3⟩ := List.pairwise_append.1 h
  obtain ⟨h4, h5⟩ := List.pairwise_cons.1 h2
  unfold edel
  rw [List.filter_append, List.filter_cons]
  simp only [beq_self_eq_true, Bool.not_true, Bool.false_eq_true, if_false]
  congr 1
  · exact List.filter_eq_self.2 fun g hg => by rw [bb_ne (h3 g hg f (by simp))]; rfl
  · refine List.filter_eq_self.2 fun g hg => ?_
    have := bb_ne (h4 g hg)
    simp only [beq_eq_false_iff_ne, ne_eq] at this
    simp only [Bool.not_eq_eq_eq_not, Bool.not_true, beq_eq_false_iff_ne, ne_eq]
    exact fun e => this e.symm
theorem eget_mem {E : List En} {n : List UInt8} {f : En} (h : eget E n = some f) : f ∈ E ∧ f.n = n := ⟨List.mem_of_find?_eq_some h, by simpa using List.find?_some h⟩
theorem eins_split (x : En) : ∀ E : List En, ∃ A B, E = A ++ B ∧ eins x E = A ++ x :: B
  | [] => ⟨[], [], rfl, rfl⟩
  | y :: r => by
    unfold eins
    split
    · exact ⟨[], y :: r, rfl, rfl⟩
    · obtain ⟨A, B, h1, h2⟩ := eins_split x r
      exact ⟨y :: A, B, by simp [h1], by simp [h2]⟩
theorem eget_split {E : List En} {n : List UInt8} {f : En} (h : eget E n = some f) : f.n = n ∧ ∃ A B, E = A ++ f :: B := by
  obtain ⟨h1, A, B, rfl, h2⟩ := List.find?_eq_some_iff_append.1 h
  exact ⟨by simpa using h1, A, B, rfl⟩
theorem used_add {E : List En} (hr : ERis E) (n b : List UInt8) : usedE (addE E n b) = usedE E + b.length := by
  unfold addE
  cases hg : eget E n with
  | none =>
    obtain ⟨A, B, rfl, h2⟩ := eins_split ⟨n, [], b⟩ E
    simp only
    rw [h2, used_mid, used_app]
    simp
  | some f =>
    obtain ⟨rfl, A, B, rfl⟩ := eget_split hg
    simp only
    rw [emod_mid hr, used_mid, used_mid]
    simp; omega
theorem len_add (E : List En) (n b : List UInt8) : (addE E n b).length ≤ E.length + 1 := by
  unfold addE
  cases hg : eget E n with
  | none =>
    obtain ⟨A, B, rfl, h2⟩ := eins_split ⟨n, [], b⟩ E
    simp only
    rw [h2]; simp; omega
  | some f => simp [emod]

end Go.Proofs.YtfkjgkgflkhbnaaDoor
