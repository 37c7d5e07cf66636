/-
 Small laws for the walks of this seat: byte texts as lists, blocks known whole, and a frame that names the blocks that may have turned. No condition: they are plain lemmas.
-/
import Derived.WalkKit
import Derived.WalkSpells
import Derived.WalkLawsBesides
import Derived.Lib.Hide
import Derived.Lib.AppendStr
import Derived.Laws.Tables
import Derived.Deep.Cut
import Derived.StillTailTactics
import Derived.ChangeKeysEq
import Derived.Deep.RegionHeld3
import Derived.Deep.QuietTactic
import Derived.BigQuiet
import Derived.Test.YtnkbphecabnnaaaGreatDoorRows
import Derived.ProofKit
import Derived.OpenShut
import Derived.SizedLaws
import Derived.Below
import Derived.Deep.Slices
import Derived.Laws.Rows
import Derived.Laws.ResultCell
namespace Go.Proofs.YtnkbphecabnnaaaGreatDoor
theorem LsA.{u} {α : Type u} {l : List α} {i : Nat} {a : α} : l.toArray.setIfInBounds i a = (l.set i a).toArray := List.setIfInBounds_toArray ..
theorem LsB.{u} {α : Type u} {a b : α} {l : List α} : (a :: l).set 0 b = b :: l := rfl
theorem LsC.{u} {α : Type u} {a b : α} {l : List α} {i : Nat} : (a :: l).set (i + 1) b = a :: l.set i b := rfl
theorem LsD.{u} {α : Type u} {l : List α} {i : Nat} {h : i < l.toArray.size} : l.toArray[i] = l[i]'(by simpa using h) := rfl
theorem LsE.{u} {α : Type u} {a : α} {l : List α} {h : 0 < (a :: l).length} : (a :: l)[0] = a := rfl
theorem LsF.{u} {α : Type u} {a : α} {l : List α} {i : Nat} {h : i + 1 < (a :: l).length} : (a :: l)[i + 1] = l[i]'(Nat.lt_of_succ_lt_succ h) := rfl
open Go.RowKit
set_option linter.unusedSimpArgs false
set_option linter.unusedVariables false

/-- A text as a value. -/
abbrev Str (l : List UInt8) : Value := .string ⟨l.toArray⟩
/-- A byte as a value. -/
def bv (b : UInt8) : Value := .int .u8 (b.toNat : Int)

@[go_sem] theorem mk_append (x y : List UInt8) : ByteArray.mk x.toArray ++ ByteArray.mk y.toArray = ByteArray.mk (x ++ y).toArray := by
 apply ByteArray.ext
 simp

/-- The blocks of `S` alone, and new ones, may have turned; `S'` is what is held then: out of `S`, or new. -/
structure Step (S S' : List Nat) (w w' : World) : Prop where
 os : w'.os = w.os
 tape : w'.tape = w.tape
 output : w'.output = w.output
 size : w.heap.size ≤ w'.heap.size
 block : ∀ k, k < w.heap.size → k ∉ S → w'.heap[k]? = w.heap[k]?
 fresh : ∀ k, k ∈ S' → k ∈ S ∨ w.heap.size ≤ k

section
variable {S S' S'' T : List Nat} {w w1 w' : World}

theorem Step.refl (S : List Nat) (w : World) : Step S S w w := ⟨rfl, rfl, rfl, Nat.le_refl _, fun _ _ _ => rfl, fun _ h => .inl h⟩

theorem Step.trans (h : Step S S' w w1) (k : Step S' S'' w1 w') : Step S S'' w w' :=
 ⟨k.os.trans h.os, k.tape.trans h.tape, k.output.trans h.output, Nat.le_trans h.size k.size,
  fun i hi hn => by
    refine (k.block i (Nat.lt_of_lt_of_le hi h.size) fun hm => ?_).trans (h.block i hi hn)
    rcases h.fresh i hm with h1 | h1
    · exact hn h1
    · omega,
  fun i hi => by
    rcases k.fresh i hi with h1 | h1
    · exact h.fresh i h1
    · exact .inr (Nat.le_trans h.size h1)⟩

/-- What is held may be let go. -/
theorem Step.drop (h : Step S S' w w') (hs : ∀ k, k ∈ S'' → k ∈ S') : Step S S'' w w' := ⟨h.os, h.tape, h.output, h.size, h.block, fun k hk => h.fresh k (hs k hk)⟩
/-- More may be held, ahead and behind. -/
theorem Step.wide (h : Step S S' w w') (hs : ∀ k, k ∈ S → k ∈ T) (ht : ∀ k, k ∈ S'' → k ∈ T ∨ k ∈ S' ∨ w.heap.size ≤ k) : Step T S'' w w' :=
 ⟨h.os, h.tape, h.output, h.size, fun k hk hn => h.block k hk fun hm => hn (hs k hm), fun k hk => by
  rcases ht k hk with h1 | h1 | h1
  ·exact .inl h1
  ·rcases h.fresh k h1 with h2 | h2
   ·exact .inl (hs k h2)
   ·exact .inr h2
  ·exact .inr h1⟩
theorem Step.keep (h : Step [] [] w w') (S : List Nat) : Step S S w w' := h.wide (by simp) (by intro k hk; exact .inl hk)
theorem Step.of_below (h : Below w.heap.size w w') : Step [] [] w w' := ⟨h.os, h.tape, h.output, h.size, fun k hk _ => h.block k hk, fun _ h => .inl h⟩
theorem Step.below (h : Step S S' w w') {B : Nat} (hB : B ≤ w.heap.size) (hs : ∀ k, k ∈ S → B ≤ k) : Below B w w' :=
 ⟨h.os, h.tape, h.output, h.size, fun k hk => h.block k (Nat.lt_of_lt_of_le hk hB) fun hm => by have := hs k hm; omega⟩
theorem Step.below0 (h : Step [] S' w w') : Below w.heap.size w w' := h.below (Nat.le_refl _) (by simp)
theorem Step.drew (h : Step S S' w w') : Step S S' w w'.drew := ⟨h.os, h.tape, h.output, h.size, h.block, h.fresh⟩
theorem Step.drewN (h : Step S S' w w') (n : Nat) : Step S S' w (w'.drewN n) := ⟨h.os, h.tape, h.output, h.size, h.block, h.fresh⟩
theorem Step.alloc (h : Step S S' w w') (o : Obj) : Step S S' w (w'.alloc o) :=
 ⟨h.os, h.tape, h.output, Nat.le_trans h.size (by simp), fun k hk hn => (Below.heap_alloc w' o k (Nat.lt_of_lt_of_le hk h.size)).trans (h.block k hk hn), h.fresh⟩
/-- A new block that is held from now on. -/
theorem Step.hold (h : Step S S' w w') (o : Obj) : Step S (w'.heap.size :: S') w (w'.alloc o) :=
 ⟨h.os, h.tape, h.output, Nat.le_trans h.size (by simp), fun k hk hn => (Below.heap_alloc w' o k (Nat.lt_of_lt_of_le hk h.size)).trans (h.block k hk hn), fun k hk => by
  rcases List.mem_cons.1 hk with rfl | hk
  ·exact .inr h.size
  ·exact h.fresh k hk⟩
theorem Step.setCell (h : Step S S' w w') {p : Addr} (hp : p.block ∈ S' ∨ w.heap.size ≤ p.block) (u : Value) : Step S S' w (w'.setCell p u) :=
 ⟨h.os, h.tape, h.output, by simpa [World.setCell] using h.size, fun k hk hn => (Below.heap_setCell w' p u k (by
  rintro rfl
  rcases hp with hp | hp
  ·rcases h.fresh _ hp with h1 | h1
   ·exact hn h1
   ·omega
  ·omega)).trans (h.block k hk hn), h.fresh⟩
theorem Step.cell (h : Step S S' w w') {p : Addr} {v : Value} (hc : w.cell? p = some v) (hn : p.block ∉ S) : w'.cell? p = some v :=
 (World.cell?_of_block (h.block p.block (World.block_lt_of_cell? w p hc) hn)).trans hc
end

@[go_sem high] theorem cut_take (s : List UInt8) (n : Nat) : (ByteArray.mk s.toArray).extract 0 n = ByteArray.mk (s.take n).toArray := by
 rw [ByteArray.extract_mk]; simp
@[go_sem high] theorem cut_drop (s : List UInt8) (n : Nat) : (ByteArray.mk s.toArray).extract n s.length = ByteArray.mk (s.drop n).toArray := by
 rw [ByteArray.extract_mk, List.take_of_length_le (by simp)]
@[go_sem] theorem cut_mid (s : List UInt8) (a b : Nat) : (ByteArray.mk s.toArray).extract a b = ByteArray.mk ((s.drop a).take (b - a)).toArray := ByteArray.extract_mk s a b

@[go_sem] theorem mk_at (a : Array UInt8) (i : Nat) (h : i < (ByteArray.mk a).size) : (ByteArray.mk a)[i]'h = a[i]'h := rfl
theorem u8_range (c : UInt8) : 0 ≤ (c.toNat : Int) ∧ (c.toNat : Int) < 256 := ⟨by omega, by have := c.toNat_lt; omega⟩
@[go_sem] theorem wrap64_u8 (c : UInt8) : wrap64 (c.toNat : Int) = c.toNat := IntWalk.wrap64_in _ (by have := u8_range c; omega)
@[go_sem] theorem wrap_i64_u8 (c : UInt8) : IntKind.i64.wrap (c.toNat : Int) = c.toNat := IntWalk.i64_in _ (by have := u8_range c; omega)
@[go_sem] theorem wrap_u64_u8 (c : UInt8) : IntKind.u64.wrap (c.toNat : Int) = c.toNat := IntWalk.u64_in _ (by have := u8_range c; omega)
@[go_sem] theorem wrap_u32_u8 (c : UInt8) : IntKind.u32.wrap (c.toNat : Int) = c.toNat := IntWalk.u32_in _ (by have := u8_range c; omega)
@[go_sem] theorem wrap_i32_u8 (c : UInt8) : IntKind.i32.wrap (c.toNat : Int) = c.toNat := IntWalk.i32_in _ (by have := u8_range c; omega)

/-- 's + t' of two texts. -/
@[go_sem high] theorem run_cat {P : Program} (x y : List UInt8) (h : x.length + y.length ≤ 9223372036854775807) (w : World) :
  (Op.stringOp .add ⟨x.toArray⟩ ⟨y.toArray⟩).run P w = .ok (.string ⟨(x ++ y).toArray⟩) w := by
 have := run_string_add_sum (P := P) (w := w) ⟨x.toArray⟩ ⟨y.toArray⟩ (by simpa [ByteArray.size] using h)
 rw [mk_append] at this
 exact this

/-- Block `g` is just the cells `cs`, of element type `t`; none is frozen. -/
def Blk (w : World) (g : Nat) (t : TypeId) (cs : Array Value) : Prop := w.heap[g]? = some (.cells cs t (0, 0))

section
variable {w w' : World} {g : Nat} {t : TypeId} {cs : Array Value} {S S' : List Nat}
theorem Blk.lt (h : Blk w g t cs) : g < w.heap.size := lt_of_block h
theorem Blk.cell (h : Blk w g t cs) (i : Nat) : w.cell? ⟨g, i, none⟩ = cs[i]? := cell_of_row w g i cs t (0, 0) h
theorem Blk.frozen (h : Blk w g t cs) (i : Nat) : w.frozen? ⟨g, i, none⟩ = false := by unfold Blk at h; simp [World.frozen?, h]
theorem Blk.new (w : World) (t : TypeId) (cs : Array Value) : Blk (w.alloc (.cells cs t)) w.heap.size t cs := heap_alloc_new w _
theorem Blk.drew (h : Blk w g t cs) : Blk w.drew g t cs := h
theorem Blk.alloc (h : Blk w g t cs) (o : Obj) : Blk (w.alloc o) g t cs := (Below.heap_alloc w o g h.lt).trans h
theorem Blk.set (h : Blk w g t cs) (i : Nat) (u : Value) : Blk (w.setCell ⟨g, i, none⟩ u) g t (cs.setIfInBounds i u) := by
 unfold Blk at h ⊢
 simp [World.setCell, Array.getElem?_modify, h]
theorem Blk.far (h : Blk w g t cs) {p : Addr} (hp : g ≠ p.block) (u : Value) : Blk (w.setCell p u) g t cs := (Below.heap_setCell w p u g hp).trans h
theorem Blk.step (h : Blk w g t cs) (k : Step S S' w w') (hn : g ∉ S) : Blk w' g t cs := (k.block g h.lt hn).trans h
theorem Blk.ne {g' : Nat} {t' : TypeId} {cs' : Array Value} (h : Blk w g t cs) (h' : Blk w g' t' cs') (hne : t ≠ t') : g ≠ g' := by
 rintro rfl
 unfold Blk at h h'
 rw [h] at h'
 injection h' with h'
 injection h' with _ ht
 exact hne ht
end

/-- 'b[l:h:m]' of an array that lies in memory, its elements of one cell each. -/
theorem run_sliceAt3 {P : Program} (w : World) (t e : TypeId) (i : TypeInfo) (n : Nat) (hu : P.underlying t = some (.array n e)) (hi : P.info? e = some i) (hsz : i.size = 1) (b off : Nat) (l h m : Int)
  (h0 : 0 ≤ l) (h1 : l ≤ h) (h2 : h ≤ m) (h3 : m ≤ n) (hlm : l < m) :
  (Instr.sliceAt t (.pointer (some ⟨b, off, none⟩)) (some (.int .i64 l)) (some (.int .i64 h)) (some (.int .i64 m))).run P w = .ok (.slice (some ⟨b, off + l.toNat, none⟩) (h.toNat - l.toNat) (m.toNat - l.toNat)) w := by
 have hm : (Instr.sliceBound (.int .i64 m) n .slice3Alen).run P w = .ok m.toNat w := by rw [run_sliceBound_if, if_pos ⟨by omega, by omega⟩]
 have hh : (Instr.sliceBound (.int .i64 h) m.toNat .slice3B).run P w = .ok h.toNat w := by rw [run_sliceBound_if, if_pos ⟨by omega, by omega⟩]
 have hl : (Instr.sliceBound (.int .i64 l) h.toNat .slice3C).run P w = .ok l.toNat w := by rw [run_sliceBound_if, if_pos ⟨by omega, by omega⟩]
 have hne : m.toNat ≠ l.toNat := by omega
 simp only [Instr.sliceAt, Sem.run_bind, run_underlying hu, Result.andThen_ok, Instr.sliceBounds]
 simp [hm, hh, hl, sizeOf, typeInfo, hi, hsz, hne, Addr.add, Instr.sureAddr]

theorem addr_add (b off j : Nat) : (⟨b, off, none⟩ : Addr).add j = ⟨b, off + j, none⟩ := by unfold Addr.add; split <;> simp_all

/-- 'string(b)' where b's cells are the bytes l. -/
theorem run_str_of_cells {P : Program} (w : World) (src dst e : TypeId) (hs : P.underlying src = some (.slice e)) (he : P.underlying e = some (.int .u8)) (hd : P.underlying dst = some .string)
  (b off n c : Nat) (l : List UInt8) (hl : l.length = n) (hc : ∀ j u, (l.map bv)[j]? = some u → w.cell? ⟨b, off + j, none⟩ = some u) :
  (convert src dst (.slice (some ⟨b, off, none⟩) n c)).run P w = .ok (Str l) w := by
 subst hl
 refine run_convert_bytes_back w src dst e _ c l hs he hd fun j hj => ?_
 rw [addr_add]
 exact hc j _ (by simp [List.getElem?_eq_getElem hj, bv])

theorem run_str_of_blk {P : Program} {w : World} {g : Nat} {t : TypeId} {cs : Array Value} (h : Blk w g t cs) (src dst e : TypeId) (hs : P.underlying src = some (.slice e)) (he : P.underlying e = some (.int .u8)) (hd : P.underlying dst = some .string)
  (off n c : Nat) (l : List UInt8) (hl : l.length = n) (hc : (cs.toList.drop off).take n = l.map bv) :
  (convert src dst (.slice (some ⟨g, off, none⟩) n c)).run P w = .ok (Str l) w := by
 refine run_str_of_cells w src dst e hs he hd g off n c l hl fun j u hu => ?_
 rw [h.cell, ← Array.getElem?_toList]
 rw [← hc, List.getElem?_take, List.getElem?_drop] at hu
 split at hu
 ·exact hu
 ·cases hu
end Go.Proofs.YtnkbphecabnnaaaGreatDoor
namespace Go.Proofs.YtnkbphecabnnaaaGreatDoor
open Go.RowKit
set_option linter.unusedSimpArgs false
set_option linter.unusedVariables false

/-- Block `g` is the cells `cs`, of whatever type; none of them is frozen. -/
def Cells (w : World) (g : Nat) (cs : Array Value) : Prop := ∃ t fr, w.heap[g]? = some (.cells cs t fr) ∧ ∀ i, i < cs.size → ¬ (fr.1 ≤ i ∧ i < fr.2)

section
variable {w w' : World} {g : Nat} {cs : Array Value} {S S' : List Nat}
theorem Blk.cells {t : TypeId} (h : Blk w g t cs) : Cells w g cs := ⟨t, (0, 0), h, fun _ _ => by simp⟩
theorem Cells.lt (h : Cells w g cs) : g < w.heap.size := by obtain ⟨t, fr, h, _⟩ := h; exact lt_of_block h
theorem Cells.cell (h : Cells w g cs) (i : Nat) : w.cell? ⟨g, i, none⟩ = cs[i]? := by obtain ⟨t, fr, h, _⟩ := h; exact cell_of_row w g i cs t fr h
theorem Cells.frozen (h : Cells w g cs) (i : Nat) (hi : i < cs.size) : w.frozen? ⟨g, i, none⟩ = false := by
 obtain ⟨t, fr, h, hf⟩ := h
 have := hf i hi
 simp only [World.frozen?, h]
 simp only [Bool.and_eq_false_iff, decide_eq_false_iff_not]
 omega
theorem Cells.drew (h : Cells w g cs) : Cells w.drew g cs := h
theorem Cells.alloc (h : Cells w g cs) (o : Obj) : Cells (w.alloc o) g cs := by
 have hl := h.lt
 obtain ⟨t, fr, h, hf⟩ := h
 exact ⟨t, fr, (Below.heap_alloc w o g hl).trans h, hf⟩
theorem Cells.step (h : Cells w g cs) (k : Step S S' w w') (hn : g ∉ S) : Cells w' g cs := by
 have hl := h.lt
 obtain ⟨t, fr, h, hf⟩ := h
 exact ⟨t, fr, (k.block g hl hn).trans h, hf⟩
theorem Cells.set (h : Cells w g cs) (i : Nat) (u : Value) : Cells (w.setCell ⟨g, i, none⟩ u) g (cs.setIfInBounds i u) := by
 obtain ⟨t, fr, h, hf⟩ := h
 exact ⟨t, fr, by simp [World.setCell, Array.getElem?_modify, h], by simpa using hf⟩
theorem Cells.far (h : Cells w g cs) {p : Addr} (hp : g ≠ p.block) (u : Value) : Cells (w.setCell p u) g cs := by
 obtain ⟨t, fr, h, hf⟩ := h
 exact ⟨t, fr, (Below.heap_setCell w p u g hp).trans h, hf⟩
theorem Cells.setRow (h : Cells w g cs) (cs' : Array Value) (hs : cs'.size = cs.size) : Cells (w.setRow g cs') g cs' := by
 obtain ⟨t, fr, h, hf⟩ := h
 exact ⟨t, fr, setRow_heap w g cs cs' t fr h, by rw [hs]; exact hf⟩
theorem Cells.setRow_self (h : Cells w g cs) : w.setRow g cs = w := by obtain ⟨t, fr, h, _⟩ := h; exact Go.setRow_self w g cs t fr h
theorem Cells.setCell_eq (h : Cells w g cs) (i : Nat) (v : Value) : w.setCell ⟨g, i, none⟩ v = w.setRow g (cs.setIfInBounds i v) := by
 obtain ⟨t, fr, h, _⟩ := h; exact setCell_eq_setRow w g i cs t fr v h
end

theorem list_set_step (l : List Value) (k : Nat) (v : Value) (rest : List Value) (h : k < l.length) :
  (l.set k v).take (k + 1) ++ rest ++ (l.set k v).drop (k + 1 + rest.length) = l.take k ++ v :: rest ++ l.drop (k + (rest.length + 1)) := by
 have h1 : (l.set k v).take (k + 1) = l.take k ++ [v] := by
  rw [List.take_succ_eq_append_getElem (by simpa using h), List.getElem_set_self, List.take_set_of_le (Nat.le_refl _)]
 have h2 : (l.set k v).drop (k + 1 + rest.length) = l.drop (k + (rest.length + 1)) := by
  rw [List.drop_set_of_lt (by omega)]
  congr 1
  omega
 rw [h1, h2]
 simp

theorem run_storeCells_cellsRow {P : Program} (g o : Nat) : ∀ (vs : List Value) (i : Nat) (cur : Array Value) (w : World), Cells w g cur → o + i + vs.length ≤ cur.size → (∀ v ∈ vs, v.oneCell' = true) →
  (storeCells ⟨g, o, none⟩ vs i).run P w = .ok () (w.setRow g (cur.toList.take (o + i) ++ vs ++ cur.toList.drop (o + i + vs.length)).toArray)
 | [], i, cur, w, hg, _, _ => by
  simp only [storeCells, List.append_nil, List.length_nil, Nat.add_zero, List.take_append_drop, Array.toArray_toList]
  rw [hg.setRow_self]
  rfl
 | v :: rest, i, cur, w, hg, hl, h1 => by
  have hi : o + i < cur.size := by simp at hl; omega
  have hcell : w.cell? ⟨g, o + i, none⟩ = some cur[o + i] := by rw [hg.cell]; simp [hi]
  have hfro := hg.frozen (o + i) hi
  have hst : (store ((⟨g, o, none⟩ : Addr).add i) v).run P w = .ok () (w.setRow g (cur.setIfInBounds (o + i) v)) := by
   rw [addr_add, run_store P w _ v _ (h1 v (by simp)), hcell]
   simp [hfro, hg.setCell_eq]
  have ih := run_storeCells_cellsRow (P := P) g o rest (i + 1) (cur.setIfInBounds (o + i) v) (w.setRow g (cur.setIfInBounds (o + i) v)) (hg.setRow _ (by simp)) (by simp at hl ⊢; omega) (fun x hx => h1 x (by simp [hx]))
  simp only [storeCells, Sem.run_bind, hst, Result.andThen_ok, ih, setRow_setRow]
  congr 3
  have e := list_set_step cur.toList (o + i) v rest (by simp; omega)
  simpa [Array.toList_setIfInBounds, Nat.add_assoc] using e

/-- The block of an address, if there is one. -/
def blks : Option Addr → List Nat
 | some ad => [ad.block]
 | none => []

/-- The slice `⟨a, n, cap⟩` has the elements whose cells are `xs` (`sz` cells each). -/
structure Row (w : World) (sz : Nat) (a : Option Addr) (n cap : Nat) (xs : List Value) : Prop where
 len : xs.length = n * sz
 le : n ≤ cap
 max : cap ≤ maxLen
 nil : a = none → cap = 0
 at_ : ∀ ad, a = some ad → ad.spot = none ∧ ∃ cs, Cells w ad.block cs ∧ ad.off + cap * sz ≤ cs.size ∧ (cs.toList.drop ad.off).take (n * sz) = xs

section
variable {w w' : World} {sz n cap : Nat} {a : Option Addr} {xs : List Value} {S S' : List Nat}
theorem Row.none (w : World) (sz : Nat) : Row w sz none 0 0 [] := ⟨by simp, Nat.le_refl _, Nat.zero_le _, fun _ => rfl, fun _ h => by cases h⟩
theorem Row.step (h : Row w sz a n cap xs) (k : Step S S' w w') (hn : ∀ g, g ∈ blks a → g ∉ S) : Row w' sz a n cap xs :=
 ⟨h.len, h.le, h.max, h.nil, fun ad e => by
  obtain ⟨h1, cs, h2, h3⟩ := h.at_ ad e
  exact ⟨h1, cs, h2.step k (hn _ (by subst e; simp [blks])), h3⟩⟩
theorem Row.lt (h : Row w sz a n cap xs) : ∀ g, g ∈ blks a → g < w.heap.size := by
 intro g hg
 cases a with
 | none => simp [blks] at hg
 | some ad =>
  simp [blks] at hg
  subst hg
  obtain ⟨_, cs, h2, _⟩ := h.at_ ad rfl
  exact h2.lt
theorem Row.alloc (h : Row w sz a n cap xs) (o : Obj) : Row (w.alloc o) sz a n cap xs := h.step ((Step.refl [] w).alloc o) (by simp)
theorem Row.drew (h : Row w sz a n cap xs) : Row w.drew sz a n cap xs := h.step ((Step.refl [] w).drew) (by simp)
theorem Row.cell (h : Row w sz a n cap xs) {g off : Nat} {sp} (e : a = some ⟨g, off, sp⟩) (j : Nat) (hj : j < n * sz) : w.cell? ⟨g, off + j, Option.none⟩ = xs[j]? ∧ w.frozen? ⟨g, off + j, Option.none⟩ = false ∧ sp = Option.none := by
 obtain ⟨h1, cs, h2, h3, h4⟩ := h.at_ _ e
 have hle : n * sz ≤ cap * sz := Nat.mul_le_mul_right _ h.le
 refine ⟨?_, h2.frozen _ (by simp at h3; omega), h1⟩
 rw [h2.cell, ← h4, List.getElem?_take, if_pos hj, List.getElem?_drop, Array.getElem?_toList]
theorem Row.some_of_pos (h : Row w sz a n cap xs) (hn : 0 < n) : ∃ g off, a = some ⟨g, off, Option.none⟩ := by
 cases a with
 | none => have := h.nil rfl; have := h.le; omega
 | some ad =>
  obtain ⟨h1, _⟩ := h.at_ ad rfl
  obtain ⟨b, o, s⟩ := ad
  simp at h1
  exact ⟨b, o, by rw [h1]⟩
/-- A store into an element. -/
theorem Row.set (h : Row w sz a n cap xs) {g off : Nat} {sp} (e : a = some ⟨g, off, sp⟩) (j : Nat) (hj : j < n * sz) (u : Value) : Row (w.setCell ⟨g, off + j, Option.none⟩ u) sz a n cap (xs.set j u) :=
 ⟨by simpa using h.len, h.le, h.max, h.nil, fun ad e' => by
  obtain ⟨h1, cs, h2, h3, h4⟩ := h.at_ ad e'
  rw [e] at e'
  injection e' with e'
  subst e'
  refine ⟨h1, _, h2.set (off + j) u, by simpa using h3, ?_⟩
  rw [← h4, Array.toList_setIfInBounds]
  apply List.ext_getElem?
  intro i
  simp only [List.getElem?_take, List.getElem?_drop, List.getElem?_set, List.length_take, List.length_drop, Array.length_toList]
  have hle : n * sz ≤ cap * sz := Nat.mul_le_mul_right _ h.le
  simp at h3
  by_cases h5 : i < n * sz
  ·by_cases h6 : j = i
   ·subst h6
    have h7 : off + j < cs.size := by omega
    simp [h5, h7]
    exact Nat.lt_min.2 ⟨h5, by omega⟩
   ·simp [h5, h6]
  ·have h7 : ¬ j = i := by omega
   simp [h5, h7]⟩
end

/-- What can be read of the slice `⟨a, n, _⟩`: the cells `xs`, `sz` for each element. -/
structure Rd (w : World) (sz : Nat) (a : Option Addr) (n : Nat) (xs : List Value) : Prop where
 len : xs.length = n * sz
 some_ : 0 < n → ∃ g off, a = some ⟨g, off, none⟩
 cell : ∀ g off sp, a = some ⟨g, off, sp⟩ → ∀ (j : Nat) (u : Value), xs[j]? = some u → w.cell? ⟨g, off + j, none⟩ = some u

theorem Row.rd {w : World} {sz n cap : Nat} {a : Option Addr} {xs : List Value} (h : Row w sz a n cap xs) : Rd w sz a n xs :=
 ⟨h.len, h.some_of_pos, fun g off sp e j u hu => by
  rw [(h.cell e j (by rw [← h.len]; exact (List.getElem?_eq_some_iff.1 hu).1)).1]
  exact hu⟩

section
variable {w w' : World} {sz n cap : Nat} {a : Option Addr} {xs : List Value} {S S' : List Nat}
theorem Rd.step (h : Rd w sz a n xs) (k : Step S S' w w') (hn : ∀ g, g ∈ blks a → g ∉ S) : Rd w' sz a n xs :=
 ⟨h.len, h.some_, fun g off sp e j u hu => k.cell (h.cell g off sp e j u hu) (hn g (by subst e; simp [blks]))⟩
theorem Rd.step0 (h : Rd w sz a n xs) (k : Step [] S' w w') : Rd w' sz a n xs := h.step k (by simp)
theorem Rd.below {B : Nat} (h : Rd w sz a n xs) (k : Below B w w') (hn : ∀ g, g ∈ blks a → g < B) : Rd w' sz a n xs :=
 ⟨h.len, h.some_, fun g off sp e j u hu => (k.cell (p := ⟨g, off + j, none⟩) (hn g (by subst e; simp [blks]))).trans (h.cell g off sp e j u hu)⟩
theorem Rd.drew (h : Rd w sz a n xs) : Rd w.drew sz a n xs := h.step ((Step.refl [] w).drew) (by simp)
theorem Rd.alloc (h : Rd w sz a n xs) (o : Obj) : Rd (w.alloc o) sz a n xs := h.step ((Step.refl [] w).alloc o) (by simp)
/-- A beginning. -/
theorem Rd.take (h : Rd w sz a n xs) (k : Nat) (hk : k ≤ n) : Rd w sz a k (xs.take (k * sz)) :=
 ⟨by rw [List.length_take, h.len]; exact Nat.min_eq_left (Nat.mul_le_mul_right _ hk), fun hp => h.some_ (by omega), fun g off sp e j u hu => h.cell g off sp e j u (by
  rw [List.getElem?_take] at hu
  split at hu
  ·exact hu
  ·cases hu)⟩
end

/-- What may stand behind append's three points. -/
structure Src (P : Program) (w : World) (sz : Nat) (T : TypeId) (x : Value) (m : Nat) (news : List Value) : Prop where
 type : (∃ e, P.underlying T = some (.slice e)) ∨ P.underlying T = some .string
 len : ∀ w', (Builtin.lenOf x).run P w' = .ok m w'
 cells : (Builtin.firstCells sz m x).run P w = .ok news.toArray w
 cellsD : (Builtin.firstCells sz m x).run P w.drew = .ok news.toArray w.drew
 size : news.length = m * sz
 one : ∀ u ∈ news, u.oneCell' = true

theorem Src.str {P : Program} (w : World) (T : TypeId) (hT : P.underlying T = some .string) (l : List UInt8) : Src P w 1 T (Str l) l.length (l.map bv) := by
 have h : ∀ w' : World, (Builtin.firstCells 1 l.length (Str l)).run P w' = .ok (l.map bv).toArray w' := fun w' => Go.Lib.run_firstCells_string (P := P) w' 1 ⟨l.toArray⟩
 exact ⟨.inr hT, fun w' => by simp [Builtin.lenOf, ByteArray.size], h w, h w.drew, by simp, fun u hu => by simp [bv] at hu; obtain ⟨b, _, rfl⟩ := hu; rfl⟩

theorem Src.rd {P : Program} {w : World} {sz n cap : Nat} {a : Option Addr} {xs : List Value} (T e : TypeId) (hT : P.underlying T = some (.slice e)) (h : Rd w sz a n xs) (h1 : ∀ u ∈ xs, u.oneCell' = true) : Src P w sz T (.slice a n cap) n xs := by
 have hf : ∀ w' : World, Rd w' sz a n xs → (Builtin.firstCells sz n (.slice a n cap)).run P w' = .ok xs.toArray w' := by
  intro w' h'
  cases a with
  | none =>
   have hn : n = 0 := by
    rcases Nat.eq_zero_or_pos n with h0 | h0
    ·exact h0
    ·obtain ⟨g, off, h2⟩ := h'.some_ h0
     cases h2
   have hx : xs = [] := List.eq_nil_of_length_eq_zero (by rw [h'.len, hn]; simp)
   subst hx
   simp [Builtin.firstCells]
  | some ad =>
   refine run_firstCells_some w' sz n ad n cap xs h'.len fun j u hu => ?_
   have hj := (List.getElem?_eq_some_iff.1 hu).1
   rw [h'.len] at hj
   have hn : 0 < n := by
    rcases Nat.eq_zero_or_pos n with h0 | h0
    ·rw [h0] at hj; simp at hj
    ·exact h0
   obtain ⟨b, o, e⟩ := h'.some_ hn
   injection e with e
   subst e
   rw [addr_add]
   exact h'.cell b o none rfl j u hu
 exact ⟨.inl ⟨e, hT⟩, fun w' => by simp [Builtin.lenOf], hf w h, hf w.drew h.drew, h.len, h1⟩

theorem Src.row {P : Program} {w : World} {sz n cap : Nat} {a : Option Addr} {xs : List Value} (T e : TypeId) (hT : P.underlying T = some (.slice e)) (h : Row w sz a n cap xs) (h1 : ∀ u ∈ xs, u.oneCell' = true) : Src P w sz T (.slice a n cap) n xs := Src.rd T e hT h.rd h1

set_option maxHeartbeats 800000 in
/-- append. -/
theorem run_append_row {P : Program} {w : World} (t T ty e : TypeId) (i : TypeInfo) (z : Value) (sz bytes : Nat) (ht : P.underlying t = some (.slice e)) (hi : P.info? e = some i) (hz : i.zero = some z)
  (hsize : i.size = sz) (hby : i.bytes = bytes) (hzs : z.cells.size = sz) {a : Option Addr} {n cap : Nat} {xs : List Value} (hr : Row w sz a n cap xs)
  {x : Value} {m : Nat} {news : List Value} (hs : Src P w sz T x m news) (h63 : n + m ≤ maxLen) (hbytes : (n + m) * bytes ≤ 140737488355328) (hb0 : 0 < bytes) :
  ∃ a' cap' w', (Builtin.append_ #[t, T] ty #[.slice a n cap, x]).run P w = .ok (.slice a' (n + m) cap') w' ∧ Row w' sz a' (n + m) cap' (xs ++ news) ∧ Step (blks a) (blks a') w w' ∧ Rd w' sz a n xs := by
 subst hsize
 subst hby
 have hnot : ∃ u, P.underlying T = some u ∧ ((match u with | .int _ => true | _ => false) = false) := by
  rcases hs.type with ⟨e', h⟩ | h
  ·exact ⟨_, h, rfl⟩
  ·exact ⟨_, h, rfl⟩
 obtain ⟨u, hT, hu⟩ := hnot
 have hlen : (xs ++ news).length = (n + m) * i.size := by rw [List.length_append, hr.len, hs.size, Nat.add_mul]
 have hl := hs.len
 by_cases hroom : n + m ≤ cap
 ·cases a with
  | none =>
   have hc := hr.nil rfl
   have hn : n = 0 := by omega
   have hm : m = 0 := by omega
   subst hn hm
   have hx : xs = [] := List.eq_nil_of_length_eq_zero (by rw [hr.len]; simp)
   have hy : news = [] := List.eq_nil_of_length_eq_zero (by rw [hs.size]; simp)
   subst hx hy
   refine ⟨none, cap, w, ?_, by simpa using hr, Step.refl _ _, hr.rd⟩
   have hc' := hs.cells
   rcases hs.type with ⟨e', h⟩ | h <;>
   simp [Builtin.append_, run_underlying ht, run_underlying h, sizeOf, typeInfo, hi, hl, hc']
  | some ad =>
   obtain ⟨b, o, s⟩ := ad
   obtain ⟨hsp, cs, h2, h3, h4⟩ := hr.at_ _ rfl
   simp at hsp h3 h4
   subst hsp
   have hfit : o + n * i.size + news.length ≤ cs.size := by
    have h5 : (n + m) * i.size ≤ cap * i.size := Nat.mul_le_mul_right _ hroom
    rw [Nat.add_mul] at h5
    rw [hs.size]
    omega
   have hst := run_storeCells_cellsRow (P := P) b (o + n * i.size) news 0 cs w h2 (by simpa using hfit) hs.one
   simp only [Nat.add_zero] at hst
   refine ⟨some ⟨b, o, none⟩, cap, w.setRow b (cs.toList.take (o + n * i.size) ++ news ++ cs.toList.drop (o + n * i.size + news.length)).toArray, ?_, ?_⟩
   ·have hc' := hs.cells
    rcases hs.type with ⟨e', h⟩ | h <;>
    simp [Builtin.append_, run_underlying ht, run_underlying h, sizeOf, typeInfo, hi, hl, hc', hroom, addr_add, hst]
   ·have R' : Row (w.setRow b (cs.toList.take (o + n * i.size) ++ news ++ cs.toList.drop (o + n * i.size + news.length)).toArray) i.size (some ⟨b, o, none⟩) (n + m) cap (xs ++ news) := by
     have hsz : (cs.toList.take (o + n * i.size) ++ news ++ cs.toList.drop (o + n * i.size + news.length)).toArray.size = cs.size := by simp; omega
     refine ⟨hlen, hroom, hr.max, (fun h => by cases h), fun ad e => ?_⟩
     injection e with e
     subst e
     refine ⟨rfl, _, h2.setRow _ hsz, by rw [hsz]; exact h3, ?_⟩
     have hxl := hr.len
     have e1 : (List.take (o + n * i.size) cs.toList).drop o = xs := by
      rw [List.drop_take]
      rw [show o + n * i.size - o = n * i.size by omega, h4]
     have e2 : o ≤ (List.take (o + n * i.size) cs.toList).length := by rw [List.length_take, Array.length_toList]; omega
     show List.take ((n + m) * i.size) (List.drop o (List.take (o + n * i.size) cs.toList ++ news ++ List.drop (o + n * i.size + news.length) cs.toList)) = xs ++ news
     rw [List.append_assoc, List.drop_append_of_le_length e2, e1, ← hlen, ← List.append_assoc, List.take_left]
    refine ⟨R', ⟨rfl, rfl, rfl, by simp, fun k _ hk => setRow_other w b k _ (by simpa [blks] using hk), fun k hk => .inl (by simpa [blks] using hk)⟩, ?_⟩
    have ht := R'.rd.take n (Nat.le_add_right _ _)
    rwa [List.take_left' hr.len] at ht
 ·have h63' : ¬ (9223372036854775807 < ((n : Int) + (m : Int))) := by simp only [maxLen] at h63; omega
  have h48' : ¬ (281474976710656 < Builtin.nextslicecap (n + m) cap * i.bytes) := by
   have := growslice_fits (need := n + m) (old := cap) (bytes := i.bytes) (by omega) hbytes
   omega
  have hfo : (Builtin.firstCells i.size n (.slice a n cap)).run P w.drew = .ok xs.toArray w.drew := by
   cases a with
   | none =>
    have hc := hr.nil rfl
    have hn : n = 0 := by have := hr.le; omega
    have hx : xs = [] := List.eq_nil_of_length_eq_zero (by rw [hr.len, hn]; simp)
    subst hx
    simp [Builtin.firstCells]
   | some ad =>
    obtain ⟨b, o, s⟩ := ad
    obtain ⟨hsp, _⟩ := hr.at_ _ rfl
    simp at hsp
    subst hsp
    refine run_firstCells_some w.drew i.size n ⟨b, o, none⟩ n cap xs hr.len fun j u hu => ?_
    rw [addr_add, (hr.drew.cell rfl j (by rw [← hr.len]; exact (List.getElem?_eq_some_iff.1 hu).1)).1]
    exact hu
  have hcD := hs.cellsD
  have hge := grownCap_ge w (n + m) cap e
  have hcm := grownCap_le_maxLen w (n + m) cap e h63
  refine ⟨some ⟨w.heap.size, 0, none⟩, grownCap w (n + m) cap e, w.drew.alloc (.cells (xs.toArray ++ news.toArray ++ Builtin.zeroCells z.cells (grownCap w (n + m) cap e - (n + m))) e), ?_, ?_, ?_, hr.rd.step ((Step.refl [] w).drew.alloc _) (by simp)⟩
  ·rcases hs.type with ⟨e', h⟩ | h <;>
   ·simp [Builtin.append_, run_underlying ht, run_underlying h, sizeOf, typeInfo, zeroValue, hi, hz, hl, hroom, h63', h48', Question.forced, hcD, hfo, newRow, grownCap]
    congr 2
    apply Array.ext'
    simp [List.append_assoc]
  ·have hsz : (xs.toArray ++ news.toArray ++ Builtin.zeroCells z.cells (grownCap w (n + m) cap e - (n + m))).size = grownCap w (n + m) cap e * i.size := by
    simp only [Array.size_append, List.size_toArray, size_zeroCells, hzs, hr.len, hs.size, ← Nat.add_mul]
    congr 1
    omega
   refine ⟨hlen, hge, hcm, (fun h => by cases h), fun ad e => ?_⟩
   injection e with e
   subst e
   refine ⟨rfl, _, (Blk.new w.drew _ _).cells, by rw [hsz]; simp, ?_⟩
   simp only [List.drop_zero, Array.toList_append, List.append_assoc]
   rw [← List.append_assoc, ← hlen]
   exact List.take_left
  ·exact ⟨rfl, rfl, rfl, by simp, fun k hk _ => Below.heap_alloc w.drew _ k hk, fun k hk => .inr (by simp [blks] at hk; omega)⟩

section
variable {P : Program} {w : World}

/-- append, at the operation. -/
theorem wp_append_row {o : Oper} {ac : Act} {K : Act → World → Prop} {Q : Exit → Act → World → Prop} (sl x : Operand) (t T : TypeId)
  (ho : o.op = .call { callee := .builtin .append, args := #[sl, x], argTypes := #[t, T] })
  (e : TypeId) (i : TypeInfo) (z : Value) (sz bytes : Nat) (ht : P.underlying t = some (.slice e)) (hi : P.info? e = some i) (hz : i.zero = some z)
  (hsize : i.size = sz) (hby : i.bytes = bytes) (hzs : z.cells.size = sz) {a : Option Addr} {n cap : Nat} {xs : List Value} (hv : ac.eval sl = .slice a n cap) (hr : Row w sz a n cap xs)
  {y : Value} {m : Nat} {news : List Value} (hx : ac.eval x = y) (hs : Src P w sz T y m news) (h63 : n + m ≤ maxLen) (hbytes : (n + m) * bytes ≤ 140737488355328) (hb0 : 0 < bytes)
  (h : ∀ a' cap' w', Row w' sz a' (n + m) cap' (xs ++ news) → Step (blks a) (blks a') w w' → K (ac.put o.dst (.slice a' (n + m) cap')) w') : o.wp P ac w K Q := by
 obtain ⟨a', cap', w', hrun, h2, h3, _⟩ := run_append_row (P := P) t T o.type e i z sz bytes ht hi hz hsize hby hzs hr hs h63 hbytes hb0
 unfold Oper.wp execOp
 simp only [ho, resolve, invoke, builtin, Sem.run_bind, Sem.run_pure, Result.andThen_ok, List.map_toArray, List.map_cons, List.map_nil, hv, hx, hrun]
 exact h a' cap' w' h2 h3

theorem wpList_append_row {ops : Array Oper} {rest : List Oper} {o : Oper} {ac : Act} {Q : Exit → Act → World → Prop} (hgd : o.guard = none) (sl x : Operand) (t T : TypeId)
  (ho : o.op = .call { callee := .builtin .append, args := #[sl, x], argTypes := #[t, T] })
  (e : TypeId) (i : TypeInfo) (z : Value) (sz bytes : Nat) (ht : P.underlying t = some (.slice e)) (hi : P.info? e = some i) (hz : i.zero = some z)
  (hsize : i.size = sz) (hby : i.bytes = bytes) (hzs : z.cells.size = sz) {a : Option Addr} {n cap : Nat} {xs : List Value} (hv : ac.eval sl = .slice a n cap) (hr : Row w sz a n cap xs)
  {y : Value} {m : Nat} {news : List Value} (hx : ac.eval x = y) (hs : Src P w sz T y m news) (h63 : n + m ≤ maxLen) (hbytes : (n + m) * bytes ≤ 140737488355328) (hb0 : 0 < bytes)
  (h : ∀ a' cap' w', Row w' sz a' (n + m) cap' (xs ++ news) → Step (blks a) (blks a') w w' → wpList P ops Q rest (ac.put o.dst (.slice a' (n + m) cap')) w') : wpList P ops Q (o :: rest) ac w :=
 wpList_plain hgd fun _ hK => wp_append_row sl x t T ho e i z sz bytes ht hi hz hsize hby hzs hv hr hx hs h63 hbytes hb0 fun a' cap' w' h2 h3 => hK _ _ (h a' cap' w' h2 h3)

/-- 'string(b)'. -/
theorem run_str_of_row (src dst e : TypeId) (hs : P.underlying src = some (.slice e)) (he : P.underlying e = some (.int .u8)) (hd : P.underlying dst = some .string)
  {a : Option Addr} {n cap : Nat} {l : List UInt8} (h : Row w 1 a n cap (l.map bv)) : (convert src dst (.slice a n cap)).run P w = .ok (Str l) w := by
 have hl : l.length = n := by simpa using h.len
 cases a with
 | none =>
  have hc := h.nil rfl
  have : l = [] := List.eq_nil_of_length_eq_zero (by have := h.le; omega)
  subst this
  rw [run_convert_bytes_nil w src e hs he n cap dst hd]
  rfl
 | some ad =>
  obtain ⟨b, o, s⟩ := ad
  obtain ⟨hsp, _⟩ := h.at_ _ rfl
  simp at hsp
  subst hsp
  refine run_str_of_cells w src dst e hs he hd b o n cap l hl fun j u hu => ?_
  rw [(h.cell rfl j (by
   have := (List.getElem?_eq_some_iff.1 hu).1
   simp at this
   omega)).1]
  exact hu

/-- '[]byte(s)'. -/
theorem run_row_of_str (src dst e : TypeId) (l : List UInt8) (hs : P.underlying src = some .string) (hd : P.underlying dst = some (.slice e)) (he : P.underlying e = some (.int .u8)) (hl : l.length ≤ maxLen) :
  ∃ a cap w', (convert src dst (Str l)).run P w = .ok (.slice (some ⟨a, 0, none⟩) l.length cap) w' ∧ Row w' 1 (some ⟨a, 0, none⟩) l.length cap (l.map bv) ∧ Step [] [a] w w' ∧ a = w.heap.size := by
 refine ⟨w.heap.size, _, _, run_bytes_of_string w src dst e ⟨l.toArray⟩ hs hd he, ?_, ?_, rfl⟩
 ·have hge := grownCap_ge w l.length 0 e
  have hcm := grownCap_le_maxLen w l.length 0 e hl
  have hsz : (bytesRow ⟨l.toArray⟩ (grownCap w l.length 0 e)).size = grownCap w l.length 0 e := by
   simp [bytesRow, ByteArray.size]
   omega
  refine ⟨by simp, hge, hcm, (fun h => by cases h), fun ad h => ?_⟩
  injection h with h
  subst h
  refine ⟨rfl, _, ⟨e, _, heap_alloc_new w.drew _, fun j hj => by simp [ByteArray.size] at hj ⊢; omega⟩, ?_, ?_⟩
  ·rw [show (ByteArray.size ⟨l.toArray⟩) = l.length by simp [ByteArray.size], hsz]; simp
  ·have e1 : (bytesRow ⟨l.toArray⟩ (grownCap w l.length 0 e)).toList = l.map bv ++ List.replicate (grownCap w l.length 0 e - l.length) (.int .u8 0) := by
    simp [bytesRow, ByteArray.size, bv]
   rw [show (ByteArray.size ⟨l.toArray⟩) = l.length by simp [ByteArray.size], e1]
   simp
 ·exact ⟨rfl, rfl, rfl, by simp, fun k hk _ => Below.heap_alloc w.drew _ k hk, fun k hk => .inr (by simp at hk; omega)⟩
end
end Go.Proofs.YtnkbphecabnnaaaGreatDoor
namespace Go.Proofs.YtnkbphecabnnaaaGreatDoor
open Go.RowKit
set_option linter.unusedSimpArgs false
set_option linter.unusedVariables false

/-- What is held besides. -/
theorem Step.frame {S S' : List Nat} {w w' : World} (h : Step S S' w w') (T : List Nat) : Step (T ++ S) (T ++ S') w w' :=
  ⟨h.os, h.tape, h.output, h.size, fun k hk hn => h.block k hk fun hm => hn (List.mem_append.2 (.inr hm)), fun k hk => by
    rcases List.mem_append.1 hk with h1 | h1
    · exact .inl (List.mem_append.2 (.inl h1))
    · rcases h.fresh k h1 with h2 | h2
      · exact .inl (List.mem_append.2 (.inr h2))
      · exact .inr h2⟩
theorem Step.frameR {S S' : List Nat} {w w' : World} (h : Step S S' w w') (T : List Nat) : Step (S ++ T) (S' ++ T) w w' :=
  ⟨h.os, h.tape, h.output, h.size, fun k hk hn => h.block k hk fun hm => hn (List.mem_append.2 (.inl hm)), fun k hk => by
    rcases List.mem_append.1 hk with h1 | h1
    · rcases h.fresh k h1 with h2 | h2
      · exact .inl (List.mem_append.2 (.inl h2))
      · exact .inr h2
    · exact .inl (List.mem_append.2 (.inr h1))⟩
/-- A block that was there and is not held is not held afterwards. -/
theorem Step.notin {S S' : List Nat} {w w' : World} (h : Step S S' w w') {g : Nat} (hg : g < w.heap.size) (hn : g ∉ S) : g ∉ S' := fun hm => by
  rcases h.fresh g hm with h1 | h1
  · exact hn h1
  · omega

section
variable {P : Program} {w : World}
end
end Go.Proofs.YtnkbphecabnnaaaGreatDoor
namespace Go.Proofs.YtnkbphecabnnaaaGreatDoor
open Go.RowKit
set_option linter.unusedSimpArgs false
set_option linter.unusedVariables false

theorem Blk.setRow {w : World} {g : Nat} {t : TypeId} {cs : Array Value} (h : Blk w g t cs) (cs' : Array Value) : Blk (w.setRow g cs') g t cs' := setRow_heap w g cs _ t _ h
theorem Step.setRow {S S' : List Nat} {w w' : World} (h : Step S S' w w') {g : Nat} (hg : g ∈ S' ∨ w.heap.size ≤ g) (cs : Array Value) : Step S S' w (w'.setRow g cs) :=
  ⟨h.os, h.tape, h.output, by simpa using h.size, fun k hk hn => (setRow_other w' g k cs (by
    rintro rfl
    rcases hg with hp | hp
    · rcases h.fresh _ hp with h1 | h1
      · exact hn h1
      · omega
    · omega)).trans (h.block k hk hn), h.fresh⟩
/-- A region that draws, all but its tail only reads: the library's law, the world behind the draw by its name. -/
theorem still_tail {P : Program} {id : Nat} {Q : Exit → Act → World → Prop} {a : Act} {w : World} {l : List Oper} (n : Nat) (hm : P.follows .mixedOrders = true) (hB : Region.lexTailB .any l.toArray n = true)
    (h : wpStill P l.toArray w.drew (fun a' => wpList P l.toArray Q (l.drop n) a' w.drew) (l.take n) a) : (Code.region id l.toArray true).wp P Q a w := wp_region_still_tail n hm hB h
theorem cell_drewN {W w : World} {n : Nat} (h : W = w.drewN n) {p : Addr} {v : Option Value} (c : w.cell? p = v) : W.cell? p = v := by subst h; exact c
theorem frozen_drewN {W w : World} {n : Nat} (h : W = w.drewN n) {p : Addr} {v : Bool} (c : w.frozen? p = v) : W.frozen? p = v := by subst h; exact c
end Go.Proofs.YtnkbphecabnnaaaGreatDoor
namespace Go.Proofs.YtnkbphecabnnaaaGreatDoor
open Go.RowKit
set_option linter.unusedSimpArgs false
set_option linter.unusedVariables false

end Go.Proofs.YtnkbphecabnnaaaGreatDoor
namespace Go.Proofs.YtnkbphecabnnaaaGreatDoor
open Go.RowKit
set_option linter.unusedSimpArgs false
set_option linter.unusedVariables false

theorem Tryz.info_bytes : (Tryz.prog.info? 5).map (fun i => (i.zero, i.size, i.bytes)) = some (some (.int .u8 0), 1, 1) := by kernel_rfl
theorem Row.empty (w : World) (t : TypeId) (sz : Nat) : Row (w.alloc (.cells #[] t)) sz (some ⟨w.heap.size, 0, Option.none⟩) 0 0 [] :=
  ⟨by simp, Nat.le_refl _, Nat.zero_le _, (fun h => by cases h), fun ad e => by
    injection e with e
    subst e
    exact ⟨rfl, #[], (Blk.new w t #[]).cells, by simp, by simp⟩⟩
theorem row_fresh (w : World) (t : TypeId) (xs : List Value) (h : xs.length ≤ maxLen) : Row (w.alloc (.cells xs.toArray t)) 1 (some ⟨w.heap.size, 0, none⟩) xs.length xs.length xs :=
  ⟨by simp, Nat.le_refl _, h, (fun e => by cases e), fun ad e => by
    injection e with e
    subst e
    exact ⟨rfl, _, (Blk.new w t _).cells, by simp, by simp⟩⟩
theorem one_of_map {l : List UInt8} : ∀ u ∈ l.map bv, u.oneCell' = true := by
  intro u hu
  obtain ⟨x, _, rfl⟩ := List.mem_map.1 hu
  rfl
end Go.Proofs.YtnkbphecabnnaaaGreatDoor
namespace Go.Proofs.YtnkbphecabnnaaaGreatDoor
open Go.RowKit Go.ChangeShapes Go.WideShapes Go.ChangeAt
set_option linter.unusedSimpArgs false
set_option linter.unusedVariables false

/-- The cells `cs` can be read as data of type `t`, each text and slice in it within the reach. -/
def Op (P : Program) (w : World) (t : TypeId) (cs : List Value) : Prop :=
 ∃ (H : Type) (enc : TypeId × Value → H) (fuel : Nat) (x : DataW H × List MemPlace), DataW.trod enc P w 0 (fun _ => true) true fuel t cs = some x ∧ ∀ n ∈ x.1.weights P t, n ≤ reachBytes

section
variable {P : Program} {w : World} {t : TypeId} {cs : List Value}

theorem Op.int {k : IntKind} (ht : P.underlying t = some (.int k)) (h : Op P w t cs) : ∃ x, cs = [.int k x] ∧ (Lit.int k x).wf = true := by
 obtain ⟨H, enc, fuel, x, hx, _⟩ := h
 obtain ⟨n, h1, _, h2⟩ := DataW.trod_int ht hx
 exact ⟨n, h1, h2⟩
theorem Op.bool (ht : P.underlying t = some .bool) (h : Op P w t cs) : ∃ b, cs = [.bool b] := by
 obtain ⟨H, enc, fuel, x, hx, _⟩ := h
 obtain ⟨b, h1, _⟩ := DataW.trod_bool ht hx
 exact ⟨b, h1⟩
theorem Op.str (ht : P.underlying t = some .string) (h : Op P w t cs) : ∃ l : List UInt8, cs = [Str l] ∧ l.length ≤ 140737488351232 := by
 obtain ⟨H, enc, fuel, x, hx, hn⟩ := h
 obtain ⟨s, h1, h2, _⟩ := DataW.trod_string ht hx
 obtain ⟨⟨l⟩⟩ := s
 refine ⟨l, h1, ?_⟩
 have := hn l.length (by rw [h2]; simp [DataW.weights])
 simpa [reachBytes] using this

theorem weightsAll_mem {H : Type} {e : TypeId} {ds : List (DataW H)} {d : DataW H} (h : d ∈ ds) : ∀ n ∈ d.weights P e, n ∈ DataW.weightsAll P e ds := by
 intro n hn
 induction ds with
 | nil => cases h
 | cons d0 ds ih =>
  simp only [DataW.weightsAll, List.mem_append]
  rcases List.mem_cons.1 h with rfl | h
  ·exact .inl hn
  ·exact .inr (ih h)
theorem weightsEach_mem {H : Type} {ts : List TypeId} {ds : List (DataW H)} {i : Nat} {u : TypeId} {d : DataW H} (hu : ts[i]? = some u) (hd : ds[i]? = some d) : ∀ n ∈ d.weights P u, n ∈ DataW.weightsEach P ts ds :=
 DataW.weights_mem_each hu hd

theorem Op.slice {e : TypeId} (ht : P.underlying t = some (.slice e)) {sz : Nat} (hc : P.cellsOf e = sz) (h : Op P w t cs) :
  ∃ (a : Option Addr) (n cap : Nat), cs = [.slice a n cap] ∧ n ≤ cap ∧ cap ≤ maxLen ∧ cap * P.bytesOf e ≤ 140737488351232 ∧
   ∀ i, i < n → ∃ cs' : List Value, cs'.length = sz ∧ (∃ ad, a = some ad ∧ ∀ j, j < sz → w.cell? (ad.add (i * sz + j)) = cs'[j]?) ∧ Op P w e cs' := by
 subst hc
 obtain ⟨H, enc, fuel, x, hx, hn⟩ := h
 rcases DataW.trod_slice ht hx with ⟨h1, h2⟩ | ⟨a, len, cap, elems, rest, n, _, h1, h2, hb, hl, hm, hlen, hel, hsp, _⟩
 ·exact ⟨none, 0, 0, h1, Nat.le_refl _, Nat.zero_le _, by simp, fun i hi => by omega⟩
 ·refine ⟨some a, len, cap, h1, hl, hm, ?_, fun i hi => ?_⟩
  ·have hr := (hsp rfl).1
   have := hn ((elems.map (·.1)).length + (rest.map (·.1)).length |> (· * P.bytesOf e)) (by rw [h2]; simp [DataW.weights, ht])
   simp only [List.length_map, hlen, hr, reachBytes] at this
   rw [show len + (cap - len) = cap by omega] at this
   exact this
  ·have hi' : i < elems.length := by omega
   have h3 := hel i hi
   rw [List.getElem?_eq_getElem hi'] at h3
   obtain ⟨cs', h4, h5⟩ := Option.bind_eq_some_iff.1 h3
   obtain ⟨_, h6, h7⟩ := World.cells?_some h4
   refine ⟨cs', h6, ⟨a, rfl, fun j hj => by rw [← Go.Deep.add_add]; exact h7 j hj⟩, H, enc, n, _, h5, fun k hk => ?_⟩
   refine hn k ?_
   rw [h2]
   simp only [DataW.weights, ht, List.mem_cons, List.mem_append]
   exact .inr (.inl (weightsAll_mem (d := elems[i].1) (List.mem_map.2 ⟨_, List.getElem_mem hi', rfl⟩) k hk))

theorem Op.struct {fs : Array Field} (ht : P.underlying t = some (.struct fs)) (h : Op P w t cs) : cs.length = P.cellsOf t ∧ ∀ (i : Nat) (f : Field), fs[i]? = some f → Op P w f.type ((cs.drop f.offset).take (P.cellsOf f.type)) := by
 obtain ⟨H, enc, fuel, x, hx, hn⟩ := h
 obtain ⟨xs, n, _, h2, hl, hlen, hf⟩ := DataW.trod_struct ht hx
 refine ⟨hl, fun i f hi => ?_⟩
 have hi' : i < xs.length := by rw [hlen]; exact (Array.getElem?_eq_some_iff.1 hi).1
 have h3 := hf i f hi
 rw [List.getElem?_eq_getElem hi'] at h3
 refine ⟨H, enc, n, _, h3, fun k hk => hn k ?_⟩
 rw [h2]
 simp only [DataW.weights, ht]
 exact weightsEach_mem (i := i) (d := xs[i].1) (by rw [List.getElem?_map, Array.getElem?_toList, hi]; rfl) (by rw [List.getElem?_map, List.getElem?_eq_getElem hi']; rfl) k hk

/-- One field of one cell. -/
theorem Op.field {fs : Array Field} (ht : P.underlying t = some (.struct fs)) (h : Op P w t cs) (i : Nat) (T : TypeId) (hf : (fs[i]?).map (fun f => (f.offset, f.type)) = some (i, T)) (hc : P.cellsOf T = 1) {c : Value} (hcs : cs[i]? = some c) : Op P w T [c] := by
 cases hfi : fs[i]? with
 | none => simp [hfi] at hf
 | some f =>
  simp only [hfi, Option.map_some, Option.some.injEq, Prod.mk.injEq] at hf
  have := (h.struct ht).2 i f hfi
  rw [hf.1, hf.2, hc] at this
  obtain ⟨hl, hx⟩ := List.getElem?_eq_some_iff.1 hcs
  rw [List.drop_eq_getElem_cons hl, hx] at this
  simpa using this

theorem Op.array {m : Nat} {e : TypeId} (ht : P.underlying t = some (.array m e)) (h : Op P w t cs) : cs.length = P.cellsOf t ∧ ∀ i, i < m → Op P w e ((cs.drop (i * P.cellsOf e)).take (P.cellsOf e)) := by
 obtain ⟨H, enc, fuel, x, hx, hn⟩ := h
 obtain ⟨xs, n, _, h2, hl, hlen, hf⟩ := DataW.trod_array ht hx
 refine ⟨hl, fun i hi => ?_⟩
 have hi' : i < xs.length := by omega
 have h3 := hf i hi
 rw [List.getElem?_eq_getElem hi'] at h3
 refine ⟨H, enc, n, _, h3, fun k hk => hn k ?_⟩
 rw [h2]
 simp only [DataW.weights, ht]
 exact weightsAll_mem (d := xs[i].1) (List.mem_map.2 ⟨_, List.getElem_mem hi', rfl⟩) k hk

/-- From 'for each i there is' to a list. -/
theorem list_of {α : Type} (n : Nat) (p : Nat → α → Prop) (h : ∀ i, i < n → ∃ x, p i x) : ∃ l : List α, l.length = n ∧ ∀ (i : Nat) (x : α), l[i]? = some x → p i x := by
 induction n with
 | zero => exact ⟨[], rfl, fun i x hx => by simp at hx⟩
 | succ n ih =>
  obtain ⟨l, hl, hp⟩ := ih fun i hi => h i (by omega)
  obtain ⟨x, hx⟩ := h n (by omega)
  refine ⟨l ++ [x], by simp [hl], fun i y hy => ?_⟩
  rw [List.getElem?_append] at hy
  split at hy
  ·exact hp i y hy
  ·rename_i hi
   have : i - l.length = 0 := by
    rcases Nat.eq_zero_or_pos (i - l.length) with h0 | h0
    ·exact h0
    ·rw [List.getElem?_eq_none (by simp; omega)] at hy; cases hy
   rw [this] at hy
   simp at hy
   subst hy
   have : i = n := by omega
   subst this
   exact hx

/-- Cells of equal pieces, read as one row. -/
theorem flat_at {α : Type} (f : α → List Value) (sz : Nat) (hf : ∀ x, (f x).length = sz) (l : List α) (k : Nat) (u : Value) (h : (l.flatMap f)[k]? = some u) : ∃ i x j, l[i]? = some x ∧ j < sz ∧ k = i * sz + j ∧ (f x)[j]? = some u := by
 induction l generalizing k with
 | nil => simp at h
 | cons x l ih =>
  rw [List.flatMap_cons, List.getElem?_append] at h
  split at h
  ·rename_i hk
   rw [hf] at hk
   exact ⟨0, x, k, rfl, hk, by simp, h⟩
  ·rename_i hk
   rw [hf] at h hk
   obtain ⟨i, y, j, h1, h2, h3, h4⟩ := ih _ h
   refine ⟨i + 1, y, j, by simpa using h1, h2, ?_, h4⟩
   rw [Nat.add_mul]
   omega
theorem flat_len {α : Type} (f : α → List Value) (sz : Nat) (hf : ∀ x, (f x).length = sz) (l : List α) : (l.flatMap f).length = l.length * sz := by
 induction l with
 | nil => simp
 | cons x l ih => rw [List.flatMap_cons, List.length_append, ih, hf, List.length_cons, Nat.add_mul]; omega

/-- A slice of things that are `sz` cells each, read as a list. -/
theorem rd_of {α : Type} (f : α → List Value) (sz : Nat) (hsz : 0 < sz) (hf : ∀ x, (f x).length = sz) {a : Option Addr} {n : Nat} (q : α → Prop)
  (h : ∀ i, i < n → ∃ x, (∃ ad, a = some ad ∧ ∀ j, j < sz → w.cell? (ad.add (i * sz + j)) = (f x)[j]?) ∧ q x) :
  ∃ l : List α, l.length = n ∧ Rd w sz a n (l.flatMap f) ∧ ∀ x ∈ l, q x := by
 obtain ⟨l, hl, hp⟩ := list_of n (fun i x => (∃ ad, a = some ad ∧ ∀ j, j < sz → w.cell? (ad.add (i * sz + j)) = (f x)[j]?) ∧ q x) h
 have hsp : ∀ ad, a = some ad → 0 < n → ad.spot = none := by
  intro ad e hn
  obtain ⟨x, ⟨ad', e', hc⟩, _⟩ := h 0 hn
  rw [e] at e'
  injection e' with e'
  subst e'
  have h0 := hc 0 hsz
  rw [List.getElem?_eq_getElem (by rw [hf]; exact hsz)] at h0
  have := World.cell?_spot h0
  simpa [Addr.add] using this
 refine ⟨l, hl, ⟨by rw [flat_len f sz hf, hl], fun hn => ?_, fun g off sp e j u hu => ?_⟩, fun x hx => ?_⟩
 ·obtain ⟨x, ⟨ad, e, _⟩, _⟩ := h 0 hn
  have := hsp ad e hn
  obtain ⟨b, o, s⟩ := ad
  simp at this
  subst this
  exact ⟨b, o, e⟩
 ·obtain ⟨i, x, j', h1, h2, h3, h4⟩ := flat_at f sz hf l j u hu
  have hi : i < l.length := (List.getElem?_eq_some_iff.1 h1).1
  obtain ⟨⟨ad, e', hc⟩, _⟩ := hp i x h1
  rw [e] at e'
  injection e' with e'
  subst e'
  have hs := hsp _ e (by omega)
  simp at hs
  subst hs
  have := hc j' h2
  rw [addr_add] at this
  rw [h3, this]
  exact h4
 ·obtain ⟨i, hi⟩ := List.mem_iff_getElem?.1 hx
  exact (hp i x hi).2
end

/-- An argument, out of the reading of all. -/
theorem op_of {H : Type} {enc : TypeId × Value → H} {P : Program} {w : World} {ts : List TypeId} {ds : List (DataW H)} (hsz : (DataW.weightsEach P ts ds).all (· ≤ reachBytes) = true) {j : Nat} {t : TypeId} {v : Value} {d : DataW H} {p : List MemPlace}
  (ht : ts[j]? = some t) (hd : ds[j]? = some d) (h : DataW.Trod enc P w 0 (fun _ => true) true t v d p) : Op P w t v.cells.toList := by
 obtain ⟨fuel, hf⟩ := h
 refine ⟨H, enc, fuel, _, hf, fun n hn => ?_⟩
 have := List.all_eq_true.1 hsz _ (DataW.weights_mem_each ht hd n hn)
 simpa using this
end Go.Proofs.YtnkbphecabnnaaaGreatDoor
namespace Go.Proofs.YtnkbphecabnnaaaGreatDoor
open Go.RowKit
set_option linter.unusedSimpArgs false
set_option linter.unusedVariables false

/-! ### lists of structs -/
section
variable {α : Type} (f : α → List Value) (sz : Nat) (hf : ∀ x, (f x).length = sz)
include hf
theorem fl_at (l : List α) (i : Nat) (x : α) (h : l[i]? = some x) (j : Nat) (hj : j < sz) : (l.flatMap f)[i * sz + j]? = (f x)[j]? := by
  induction l generalizing i with
  | nil => simp at h
  | cons y l ih =>
    cases i with
    | zero =>
      simp at h
      subst h
      simp only [List.flatMap_cons, Nat.zero_mul, Nat.zero_add]
      rw [List.getElem?_append_left (by rw [hf]; omega)]
    | succ i =>
      simp at h
      have := ih i h
      simp only [List.flatMap_cons]
      rw [List.getElem?_append_right (by rw [hf, Nat.succ_mul]; omega), ← this]
      congr 1
      rw [hf, Nat.succ_mul]
      omega
theorem rd_fl {w : World} {l : List α} {g off : Nat} {sp n} (h : Rd w sz (some ⟨g, off, sp⟩) n (l.flatMap f)) {k : Nat} {x : α} (hx : l[k]? = some x) (j : Nat) (hj : j < sz) (v : Value) (hv : (f x)[j]? = some v) :
    w.cell? ⟨g, off + k * sz + j, none⟩ = some v := by
  rw [Nat.add_assoc]
  exact h.cell g off sp rfl (k * sz + j) _ ((fl_at f sz hf l k x hx j hj).trans hv)
end
theorem rd_blk' {w : World} {g : Nat} {t : TypeId} {xs : List Value} (h : Blk w g t xs.toArray) (sz n : Nat) (hl : xs.length = n * sz) : Rd w sz (some ⟨g, 0, none⟩) n xs :=
  ⟨hl, fun _ => ⟨g, 0, rfl⟩, fun g' off sp e j u hu => by
    injection e with e
    injection e with e1 e2 e3
    subst e1 e2
    rw [Nat.zero_add, h.cell, List.getElem?_toArray, hu]⟩
end Go.Proofs.YtnkbphecabnnaaaGreatDoor
namespace Go.Proofs.YtnkbphecabnnaaaGreatDoor
open Go.RowKit
set_option linter.unusedSimpArgs false
set_option linter.unusedVariables false

/-- The type's size, and that it is a struct. -/
def StructOf (P : Program) (T : TypeId) (n : Nat) : Prop := (P.info? T).map (·.size) = some n ∧ ∃ fs, P.underlying T = some (.struct fs)
section
variable {P : Program} {w : World} {o : Oper} {ac : Act} {K : Act → World → Prop} {Q : Exit → Act → World → Prop} {b : Nat} {T T' : TypeId} {cs vs : Array Value}
theorem run_storeRow (hT : StructOf P T vs.size) (h : Blk w b T' cs) (hs : cs.size = vs.size) (h1 : vs.all (·.oneCell') = true) :
    (Instr.storeAt T (.pointer (some ⟨b, 0, none⟩)) (.agg vs)).run P w = .ok () (w.setRow b vs) := by
  simp only [Instr.storeAt, Instr.sureAddr, Sem.run_bind, Sem.run_pure, Result.andThen]
  exact run_storeVar_row w b T' T cs vs h hT.1 hs h1
theorem wp_storeRow (p x : Operand) (ho : o.op = .store T p x) (hp : ac.eval p = .pointer (some ⟨b, 0, none⟩)) (hx : ac.eval x = .agg vs) (hT : StructOf P T vs.size) (h : Blk w b T' cs) (hs : cs.size = vs.size) (h1 : vs.all (·.oneCell') = true)
    (k : ∀ w', Blk w' b T' vs → Step [b] [b] w w' → K (ac.put o.dst undef) w') : o.wp P ac w K Q := by
  have hrun := run_storeRow (P := P) hT h hs h1
  unfold Oper.wp execOp
  simp only [ho, hp, hx, Sem.run_bind, hrun, Result.andThen_ok, Sem.run_pure]
  exact k _ (Blk.setRow h vs) ((Step.refl [b] w).setRow (.inl (by simp)) vs)
theorem wpList_storeRow {ops : Array Oper} {rest : List Oper} (hgd : o.guard = none) (p x : Operand) (ho : o.op = .store T p x) (hp : ac.eval p = .pointer (some ⟨b, 0, none⟩)) (hx : ac.eval x = .agg vs) (hT : StructOf P T vs.size) (h : Blk w b T' cs) (hs : cs.size = vs.size) (h1 : vs.all (·.oneCell') = true)
    (k : ∀ w', Blk w' b T' vs → Step [b] [b] w w' → wpList P ops Q rest (ac.put o.dst undef) w') : wpList P ops Q (o :: rest) ac w :=
  wpList_plain hgd fun _ hK => wp_storeRow p x ho hp hx hT h hs h1 fun w' h2 h3 => hK _ _ (k w' h2 h3)
end
/-! ### a value into the midst of a block -/
section
variable {P : Program} {w : World} {o : Oper} {ac : Act} {K : Act → World → Prop} {Q : Exit → Act → World → Prop} {b i : Nat} {T T' : TypeId} {cs cs' : Array Value} {v : Value}
theorem run_storeOff (hi : (P.info? T).map (·.size) = some v.cells.size) (h : Blk w b T' cs) (hl : i + v.cells.size ≤ cs.size) (h1 : v.cells.all (·.oneCell') = true) :
    (Instr.storeAt T (.pointer (some ⟨b, i, none⟩)) v).run P w = .ok () (w.setRow b (cs.toList.take i ++ v.cells.toList ++ cs.toList.drop (i + v.cells.size)).toArray) := by
  have h2 := run_storeCells_cellsRow (P := P) b i v.cells.toList 0 cs w h.cells (by simpa using hl) (fun u hu => (Array.all_eq_true_iff_forall_mem.1 h1) u (by simpa using hu))
  rw [Nat.add_zero, Array.length_toList] at h2
  simp only [Instr.storeAt, Instr.sureAddr, Sem.run_bind, Sem.run_pure, Result.andThen]
  cases hq : P.info? T with
  | none => simp [hq] at hi
  | some inf =>
    have hs : v.cells.size = inf.size := by simp [hq] at hi; omega
    simp only [storeVar, sizeOf, typeInfo, hq, hs] at h2 ⊢
    simpa [hq, hs] using h2
theorem wp_storeOff (p x : Operand) (ho : o.op = .store T p x) (hp : ac.eval p = .pointer (some ⟨b, i, none⟩)) (hx : ac.eval x = v) (hi : (P.info? T).map (·.size) = some v.cells.size) (h : Blk w b T' cs) (hl : i + v.cells.size ≤ cs.size) (h1 : v.cells.all (·.oneCell') = true)
    (hcs : (cs.toList.take i ++ v.cells.toList ++ cs.toList.drop (i + v.cells.size)).toArray = cs') (k : ∀ w', Blk w' b T' cs' → Step [b] [b] w w' → K (ac.put o.dst undef) w') : o.wp P ac w K Q := by
  have hrun := run_storeOff (P := P) hi h hl h1
  rw [hcs] at hrun
  unfold Oper.wp execOp
  simp only [ho, hp, hx, Sem.run_bind, hrun, Result.andThen_ok, Sem.run_pure]
  exact k _ (Blk.setRow h cs') ((Step.refl [b] w).setRow (.inl (by simp)) cs')
theorem step_storeOff {ops : Array Oper} {E : Prop} (hgd : o.guard = none) (p x : Operand) (ho : o.op = .store T p x) (hp : ac.eval p = .pointer (some ⟨b, i, none⟩)) (hx : ac.eval x = v) (hi : (P.info? T).map (·.size) = some v.cells.size) (h : Blk w b T' cs) (hl : i + v.cells.size ≤ cs.size) (h1 : v.cells.all (·.oneCell') = true)
    (hcs : (cs.toList.take i ++ v.cells.toList ++ cs.toList.drop (i + v.cells.size)).toArray = cs') (k : ∀ w', Blk w' b T' cs' → Step [b] [b] w w' → K (ac.put o.dst undef) w') :
    if Region.wanted o (yielded ops ac.tmps) = true then o.wp P ac w K Q else E := by
  have hw : Region.wanted o (yielded ops ac.tmps) = true := by simp [Region.wanted, hgd]
  rw [if_pos hw]
  exact wp_storeOff p x ho hp hx hi h hl h1 hcs k
end
end Go.Proofs.YtnkbphecabnnaaaGreatDoor
