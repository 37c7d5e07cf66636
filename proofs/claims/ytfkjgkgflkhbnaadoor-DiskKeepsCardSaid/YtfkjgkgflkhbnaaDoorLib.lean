/-
  Small laws for the walks of this seat: byte texts as lists, blocks known whole, and a frame that names the blocks that may have turned. No condition: they are plain lemmas.
-/
import Derived.WalkKit
import Derived.WalkSpells
import Derived.WalkLawsBesides
import Derived.Lib.Hide
namespace Go.Proofs.YtfkjgkgflkhbnaaDoor
open Go.RowKit
set_option linter.unusedSimpArgs false
set_option linter.unusedVariables false

/-- A text as a value. -/
abbrev Str (l : List UInt8) : Value := .string ⟨l.toArray⟩
/-- A byte as a value. -/
def bv (b : UInt8) : Value := .int .u8 (b.toNat : Int)

@[go_sem] theorem mk_append (x y : List UInt8) : ByteArray.mk x.toArray ++ ByteArray.mk y.toArray = ByteArray.mk (x ++ y).toArray := by
  apply ByteArray.ext
  simp

/-- The blocks of `S` alone, and new ones, may have turned; `S'` is what is held then: out of `S`, or new. -/
structure Step (S S' : List Nat) (w w' : World) : Prop where
  os : w'.os = w.os
  tape : w'.tape = w.tape
  output : w'.output = w.output
  size : w.heap.size ≤ w'.heap.size
  block : ∀ k, k < w.heap.size → k ∉ S → w'.heap[k]? = w.heap[k]?
  fresh : ∀ k, k ∈ S' → k ∈ S ∨ w.heap.size ≤ k

section
variable {S S' S'' T : List Nat} {w w1 w' : World}

theorem Step.refl (S : List Nat) (w : World) : Step S S w w := ⟨rfl, rfl, rfl, Nat.le_refl _, fun _ _ _ => rfl, fun _ h => .inl h⟩

theorem Step.trans (h : Step S S' w w1) (k : Step S' S'' w1 w') : Step S S'' w w' :=
  ⟨k.os.trans h.os, k.tape.trans h.tape, k.output.trans h.output, Nat.le_trans h.size k.size,
   fun i hi hn => by
     refine (k.block i (Nat.lt_of_lt_of_le hi h.size) fun hm => ?_).trans (h.block i hi hn)
     rcases h.fresh i hm with h1 | h1
     · exact hn h1
     · omega,
   fun i hi => by
     rcases k.fresh i hi with h1 | h1
     · exact h.fresh i h1
     · exact .inr (Nat.le_trans h.size h1)⟩

/-- What is held may be let go. -/
theorem Step.drop (h : Step S S' w w') (hs : ∀ k, k ∈ S'' → k ∈ S') : Step S S'' w w' := ⟨h.os, h.tape, h.output, h.size, h.block, fun k hk => h.fresh k (hs k hk)⟩
/-- More may be held, ahead and behind. -/
theorem Step.wide (h : Step S S' w w') (hs : ∀ k, k ∈ S → k ∈ T) (ht : ∀ k, k ∈ S'' → k ∈ T ∨ k ∈ S' ∨ w.heap.size ≤ k) : Step T S'' w w' :=
  ⟨h.os, h.tape, h.output, h.size, fun k hk hn => h.block k hk fun hm => hn (hs k hm), fun k hk => by
    rcases ht k hk with h1 | h1 | h1
    · exact .inl h1
    · rcases h.fresh k h1 with h2 | h2
      · exact .inl (hs k h2)
      · exact .inr h2
    · exact .inr h1⟩
theorem Step.keep (h : Step [] [] w w') (S : List Nat) : Step S S w w' := h.wide (by simp) (by intro k hk; exact .inl hk)
theorem Step.of_below (h : Below w.heap.size w w') : Step [] [] w w' := ⟨h.os, h.tape, h.output, h.size, fun k hk _ => h.block k hk, fun _ h => .inl h⟩
theorem Step.below (h : Step S S' w w') {B : Nat} (hB : B ≤ w.heap.size) (hs : ∀ k, k ∈ S → B ≤ k) : Below B w w' :=
  ⟨h.os, h.tape, h.output, h.size, fun k hk => h.block k (Nat.lt_of_lt_of_le hk hB) fun hm => by have := hs k hm; omega⟩
theorem Step.below0 (h : Step [] S' w w') : Below w.heap.size w w' := h.below (Nat.le_refl _) (by simp)
theorem Step.drew (h : Step S S' w w') : Step S S' w w'.drew := ⟨h.os, h.tape, h.output, h.size, h.block, h.fresh⟩
theorem Step.drewN (h : Step S S' w w') (n : Nat) : Step S S' w (w'.drewN n) := ⟨h.os, h.tape, h.output, h.size, h.block, h.fresh⟩
theorem Step.alloc (h : Step S S' w w') (o : Obj) : Step S S' w (w'.alloc o) :=
  ⟨h.os, h.tape, h.output, Nat.le_trans h.size (by simp), fun k hk hn => (Below.heap_alloc w' o k (Nat.lt_of_lt_of_le hk h.size)).trans (h.block k hk hn), h.fresh⟩
/-- A new block that is held from now on. -/
theorem Step.hold (h : Step S S' w w') (o : Obj) : Step S (w'.heap.size :: S') w (w'.alloc o) :=
  ⟨h.os, h.tape, h.output, Nat.le_trans h.size (by simp), fun k hk hn => (Below.heap_alloc w' o k (Nat.lt_of_lt_of_le hk h.size)).trans (h.block k hk hn), fun k hk => by
    rcases List.mem_cons.1 hk with rfl | hk
    · exact .inr h.size
    · exact h.fresh k hk⟩
theorem Step.setCell (h : Step S S' w w') {p : Addr} (hp : p.block ∈ S' ∨ w.heap.size ≤ p.block) (u : Value) : Step S S' w (w'.setCell p u) :=
  ⟨h.os, h.tape, h.output, by simpa [World.setCell] using h.size, fun k hk hn => (Below.heap_setCell w' p u k (by
    rintro rfl
    rcases hp with hp | hp
    · rcases h.fresh _ hp with h1 | h1
      · exact hn h1
      · omega
    · omega)).trans (h.block k hk hn), h.fresh⟩
theorem Step.cell (h : Step S S' w w') {p : Addr} {v : Value} (hc : w.cell? p = some v) (hn : p.block ∉ S) : w'.cell? p = some v :=
  (World.cell?_of_block (h.block p.block (World.block_lt_of_cell? w p hc) hn)).trans hc
end

@[go_sem high] theorem cut_take (s : List UInt8) (n : Nat) : (ByteArray.mk s.toArray).extract 0 n = ByteArray.mk (s.take n).toArray := by
  rw [ByteArray.extract_mk]; simp
@[go_sem high] theorem cut_drop (s : List UInt8) (n : Nat) : (ByteArray.mk s.toArray).extract n s.length = ByteArray.mk (s.drop n).toArray := by
  rw [ByteArray.extract_mk, List.take_of_length_le (by simp)]
@[go_sem] theorem cut_mid (s : List UInt8) (a b : Nat) : (ByteArray.mk s.toArray).extract a b = ByteArray.mk ((s.drop a).take (b - a)).toArray := ByteArray.extract_mk s a b

@[go_sem] theorem mk_at (a : Array UInt8) (i : Nat) (h : i < (ByteArray.mk a).size) : (ByteArray.mk a)[i]'h = a[i]'h := rfl
theorem u8_range (c : UInt8) : 0 ≤ (c.toNat : Int) ∧ (c.toNat : Int) < 256 := ⟨by omega, by have := c.toNat_lt; omega⟩
@[go_sem] theorem wrap64_u8 (c : UInt8) : wrap64 (c.toNat : Int) = c.toNat := IntWalk.wrap64_in _ (by have := u8_range c; omega)
@[go_sem] theorem wrap_i64_u8 (c : UInt8) : IntKind.i64.wrap (c.toNat : Int) = c.toNat := IntWalk.i64_in _ (by have := u8_range c; omega)
@[go_sem] theorem wrap_u64_u8 (c : UInt8) : IntKind.u64.wrap (c.toNat : Int) = c.toNat := IntWalk.u64_in _ (by have := u8_range c; omega)
@[go_sem] theorem wrap_u32_u8 (c : UInt8) : IntKind.u32.wrap (c.toNat : Int) = c.toNat := IntWalk.u32_in _ (by have := u8_range c; omega)
@[go_sem] theorem wrap_i32_u8 (c : UInt8) : IntKind.i32.wrap (c.toNat : Int) = c.toNat := IntWalk.i32_in _ (by have := u8_range c; omega)

/-- 's + t' of two texts. -/
@[go_sem high] theorem run_cat {P : Program} (x y : List UInt8) (h : x.length + y.length ≤ 9223372036854775807) (w : World) :
    (Op.stringOp .add ⟨x.toArray⟩ ⟨y.toArray⟩).run P w = .ok (.string ⟨(x ++ y).toArray⟩) w := by
  have := run_string_add_sum (P := P) (w := w) ⟨x.toArray⟩ ⟨y.toArray⟩ (by simpa [ByteArray.size] using h)
  rw [mk_append] at this
  exact this

/-- Block `g` is just the cells `cs`, of element type `t`; none is frozen. -/
def Blk (w : World) (g : Nat) (t : TypeId) (cs : Array Value) : Prop := w.heap[g]? = some (.cells cs t (0, 0))

section
variable {w w' : World} {g : Nat} {t : TypeId} {cs : Array Value} {S S' : List Nat}
theorem Blk.lt (h : Blk w g t cs) : g < w.heap.size := lt_of_block h
theorem Blk.cell (h : Blk w g t cs) (i : Nat) : w.cell? ⟨g, i, none⟩ = cs[i]? := cell_of_row w g i cs t (0, 0) h
theorem Blk.frozen (h : Blk w g t cs) (i : Nat) : w.frozen? ⟨g, i, none⟩ = false := by unfold Blk at h; simp [World.frozen?, h]
theorem Blk.new (w : World) (t : TypeId) (cs : Array Value) : Blk (w.alloc (.cells cs t)) w.heap.size t cs := heap_alloc_new w _
theorem Blk.drew (h : Blk w g t cs) : Blk w.drew g t cs := h
theorem Blk.alloc (h : Blk w g t cs) (o : Obj) : Blk (w.alloc o) g t cs := (Below.heap_alloc w o g h.lt).trans h
theorem Blk.set (h : Blk w g t cs) (i : Nat) (u : Value) : Blk (w.setCell ⟨g, i, none⟩ u) g t (cs.setIfInBounds i u) := by
  unfold Blk at h ⊢
  simp [World.setCell, Array.getElem?_modify, h]
theorem Blk.far (h : Blk w g t cs) {p : Addr} (hp : g ≠ p.block) (u : Value) : Blk (w.setCell p u) g t cs := (Below.heap_setCell w p u g hp).trans h
theorem Blk.step (h : Blk w g t cs) (k : Step S S' w w') (hn : g ∉ S) : Blk w' g t cs := (k.block g h.lt hn).trans h
theorem Blk.ne {g' : Nat} {t' : TypeId} {cs' : Array Value} (h : Blk w g t cs) (h' : Blk w g' t' cs') (hne : t ≠ t') : g ≠ g' := by
  rintro rfl
  unfold Blk at h h'
  rw [h] at h'
  injection h' with h'
  injection h' with _ ht
  exact hne ht
end

/-- 'b[l:h:m]' of an array that lies in memory, its elements of one cell each. -/
theorem run_sliceAt3 {P : Program} (w : World) (t e : TypeId) (i : TypeInfo) (n : Nat) (hu : P.underlying t = some (.array n e)) (hi : P.info? e = some i) (hsz : i.size = 1) (b off : Nat) (l h m : Int)
    (h0 : 0 ≤ l) (h1 : l ≤ h) (h2 : h ≤ m) (h3 : m ≤ n) (hlm : l < m) :
    (Instr.sliceAt t (.pointer (some ⟨b, off, none⟩)) (some (.int .i64 l)) (some (.int .i64 h)) (some (.int .i64 m))).run P w = .ok (.slice (some ⟨b, off + l.toNat, none⟩) (h.toNat - l.toNat) (m.toNat - l.toNat)) w := by
  have hm : (Instr.sliceBound (.int .i64 m) n .slice3Alen).run P w = .ok m.toNat w := by rw [run_sliceBound_if, if_pos ⟨by omega, by omega⟩]
  have hh : (Instr.sliceBound (.int .i64 h) m.toNat .slice3B).run P w = .ok h.toNat w := by rw [run_sliceBound_if, if_pos ⟨by omega, by omega⟩]
  have hl : (Instr.sliceBound (.int .i64 l) h.toNat .slice3C).run P w = .ok l.toNat w := by rw [run_sliceBound_if, if_pos ⟨by omega, by omega⟩]
  have hne : m.toNat ≠ l.toNat := by omega
  simp only [Instr.sliceAt, Sem.run_bind, run_underlying hu, Result.andThen_ok, Instr.sliceBounds]
  simp [hm, hh, hl, sizeOf, typeInfo, hi, hsz, hne, Addr.add, Instr.sureAddr]

theorem addr_add (b off j : Nat) : (⟨b, off, none⟩ : Addr).add j = ⟨b, off + j, none⟩ := by unfold Addr.add; split <;> simp_all

/-- 'string(b)' where b's cells are the bytes l. -/
theorem run_str_of_cells {P : Program} (w : World) (src dst e : TypeId) (hs : P.underlying src = some (.slice e)) (he : P.underlying e = some (.int .u8)) (hd : P.underlying dst = some .string)
    (b off n c : Nat) (l : List UInt8) (hl : l.length = n) (hc : ∀ j u, (l.map bv)[j]? = some u → w.cell? ⟨b, off + j, none⟩ = some u) :
    (convert src dst (.slice (some ⟨b, off, none⟩) n c)).run P w = .ok (Str l) w := by
  subst hl
  refine run_convert_bytes_back w src dst e _ c l hs he hd fun j hj => ?_
  rw [addr_add]
  exact hc j _ (by simp [List.getElem?_eq_getElem hj, bv])

theorem run_str_of_blk {P : Program} {w : World} {g : Nat} {t : TypeId} {cs : Array Value} (h : Blk w g t cs) (src dst e : TypeId) (hs : P.underlying src = some (.slice e)) (he : P.underlying e = some (.int .u8)) (hd : P.underlying dst = some .string)
    (off n c : Nat) (l : List UInt8) (hl : l.length = n) (hc : (cs.toList.drop off).take n = l.map bv) :
    (convert src dst (.slice (some ⟨g, off, none⟩) n c)).run P w = .ok (Str l) w := by
  refine run_str_of_cells w src dst e hs he hd g off n c l hl fun j u hu => ?_
  rw [h.cell, ← Array.getElem?_toList]
  rw [← hc, List.getElem?_take, List.getElem?_drop] at hu
  split at hu
  · exact hu
  · cases hu
end Go.Proofs.YtfkjgkgflkhbnaaDoor
