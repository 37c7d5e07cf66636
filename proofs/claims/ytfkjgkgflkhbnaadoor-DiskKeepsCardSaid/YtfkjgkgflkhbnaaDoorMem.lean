/-
  Rows of cells as slices see them (any offset, any spare room), and what append, slicing, string(..), []byte(..), make do to them. No condition: plain lemmas.
-/
import Derived.Test.YtfkjgkgflkhbnaaDoorLib
import Derived.Lib.AppendStr
namespace Go.Proofs.YtfkjgkgflkhbnaaDoor
open Go.RowKit
set_option linter.unusedSimpArgs false
set_option linter.unusedVariables false

/-- Block `g` is the cells `cs`, of whatever type; none of them is frozen. -/
def Cells (w : World) (g : Nat) (cs : Array Value) : Prop := ∃ t fr, w.heap[g]? = some (.cells cs t fr) ∧ ∀ i, i < cs.size → ¬ (fr.1 ≤ i ∧ i < fr.2)

section
variable {w w' : World} {g : Nat} {cs : Array Value} {S S' : List Nat}
theorem Blk.cells {t : TypeId} (h : Blk w g t cs) : Cells w g cs := ⟨t, (0, 0), h, fun _ _ => by simp⟩
theorem Cells.lt (h : Cells w g cs) : g < w.heap.size := by obtain ⟨t, fr, h, _⟩ := h; exact lt_of_block h
theorem Cells.cell (h : Cells w g cs) (i : Nat) : w.cell? ⟨g, i, none⟩ = cs[i]? := by obtain ⟨t, fr, h, _⟩ := h; exact cell_of_row w g i cs t fr h
theorem Cells.frozen (h : Cells w g cs) (i : Nat) (hi : i < cs.size) : w.frozen? ⟨g, i, none⟩ = false := by
  obtain ⟨t, fr, h, hf⟩ := h
  have := hf i hi
  simp only [World.frozen?, h]
  simp only [Bool.and_eq_false_iff, decide_eq_false_iff_not]
  omega
theorem Cells.drew (h : Cells w g cs) : Cells w.drew g cs := h
theorem Cells.alloc (h : Cells w g cs) (o : Obj) : Cells (w.alloc o) g cs := by
  have hl := h.lt
  obtain ⟨t, fr, h, hf⟩ := h
  exact ⟨t, fr, (Below.heap_alloc w o g hl).trans h, hf⟩
theorem Cells.step (h : Cells w g cs) (k : Step S S' w w') (hn : g ∉ S) : Cells w' g cs := by
  have hl := h.lt
  obtain ⟨t, fr, h, hf⟩ := h
  exact ⟨t, fr, (k.block g hl hn).trans h, hf⟩
theorem Cells.set (h : Cells w g cs) (i : Nat) (u : Value) : Cells (w.setCell ⟨g, i, none⟩ u) g (cs.setIfInBounds i u) := by
  obtain ⟨t, fr, h, hf⟩ := h
  exact ⟨t, fr, by simp [World.setCell, Array.getElem?_modify, h], by simpa using hf⟩
theorem Cells.far (h : Cells w g cs) {p : Addr} (hp : g ≠ p.block) (u : Value) : Cells (w.setCell p u) g cs := by
  obtain ⟨t, fr, h, hf⟩ := h
  exact ⟨t, fr, (Below.heap_setCell w p u g hp).trans h, hf⟩
theorem Cells.setRow (h : Cells w g cs) (cs' : Array Value) (hs : cs'.size = cs.size) : Cells (w.setRow g cs') g cs' := by
  obtain ⟨t, fr, h, hf⟩ := h
  exact ⟨t, fr, setRow_heap w g cs cs' t fr h, by rw [hs]; exact hf⟩
theorem Cells.setRow_self (h : Cells w g cs) : w.setRow g cs = w := by obtain ⟨t, fr, h, _⟩ := h; exact Go.setRow_self w g cs t fr h
theorem Cells.setCell_eq (h : Cells w g cs) (i : Nat) (v : Value) : w.setCell ⟨g, i, none⟩ v = w.setRow g (cs.setIfInBounds i v) := by
  obtain ⟨t, fr, h, _⟩ := h; exact setCell_eq_setRow w g i cs t fr v h
theorem Cells.uniq {cs' : Array Value} (h : Cells w g cs) (h' : Cells w g cs') : cs = cs' := by
  obtain ⟨t, fr, h, _⟩ := h
  obtain ⟨t', fr', h', _⟩ := h'
  rw [h] at h'
  injection h' with h'
  injection h'
end

theorem list_set_step (l : List Value) (k : Nat) (v : Value) (rest : List Value) (h : k < l.length) :
    (l.set k v).take (k + 1) ++ rest ++ (l.set k v).drop (k + 1 + rest.length) = l.take k ++ v :: rest ++ l.drop (k + (rest.length + 1)) := by
  have h1 : (l.set k v).take (k + 1) = l.take k ++ [v] := by
    rw [List.take_succ_eq_append_getElem (by simpa using h), List.getElem_set_self, List.take_set_of_le (Nat.le_refl _)]
  have h2 : (l.set k v).drop (k + 1 + rest.length) = l.drop (k + (rest.length + 1)) := by
    rw [List.drop_set_of_lt (by omega)]
    congr 1
    omega
  rw [h1, h2]
  simp

theorem run_storeCells_cellsRow {P : Program} (g o : Nat) : ∀ (vs : List Value) (i : Nat) (cur : Array Value) (w : World), Cells w g cur → o + i + vs.length ≤ cur.size → (∀ v ∈ vs, v.oneCell' = true) →
    (storeCells ⟨g, o, none⟩ vs i).run P w = .ok () (w.setRow g (cur.toList.take (o + i) ++ vs ++ cur.toList.drop (o + i + vs.length)).toArray)
  | [], i, cur, w, hg, _, _ => by
    simp only [storeCells, List.append_nil, List.length_nil, Nat.add_zero, List.take_append_drop, Array.toArray_toList]
    rw [hg.setRow_self]
    rfl
  | v :: rest, i, cur, w, hg, hl, h1 => by
    have hi : o + i < cur.size := by simp at hl; omega
    have hcell : w.cell? ⟨g, o + i, none⟩ = some cur[o + i] := by rw [hg.cell]; simp [hi]
    have hfro := hg.frozen (o + i) hi
    have hst : (store ((⟨g, o, none⟩ : Addr).add i) v).run P w = .ok () (w.setRow g (cur.setIfInBounds (o + i) v)) := by
      rw [addr_add, run_store P w _ v _ (h1 v (by simp)), hcell]
      simp [hfro, hg.setCell_eq]
    have ih := run_storeCells_cellsRow (P := P) g o rest (i + 1) (cur.setIfInBounds (o + i) v) (w.setRow g (cur.setIfInBounds (o + i) v)) (hg.setRow _ (by simp)) (by simp at hl ⊢; omega) (fun x hx => h1 x (by simp [hx]))
    simp only [storeCells, Sem.run_bind, hst, Result.andThen_ok, ih, setRow_setRow]
    congr 3
    have e := list_set_step cur.toList (o + i) v rest (by simp; omega)
    simpa [Array.toList_setIfInBounds, Nat.add_assoc] using e

/-- The block of an address, if there is one. -/
def blks : Option Addr → List Nat
  | some ad => [ad.block]
  | none => []

/-- The slice `⟨a, n, cap⟩` has the elements whose cells are `xs` (`sz` cells each). -/
structure Row (w : World) (sz : Nat) (a : Option Addr) (n cap : Nat) (xs : List Value) : Prop where
  len : xs.length = n * sz
  le : n ≤ cap
  max : cap ≤ maxLen
  nil : a = none → cap = 0
  at_ : ∀ ad, a = some ad → ad.spot = none ∧ ∃ cs, Cells w ad.block cs ∧ ad.off + cap * sz ≤ cs.size ∧ (cs.toList.drop ad.off).take (n * sz) = xs

section
variable {w w' : World} {sz n cap : Nat} {a : Option Addr} {xs : List Value} {S S' : List Nat}
theorem Row.none (w : World) (sz : Nat) : Row w sz none 0 0 [] := ⟨by simp, Nat.le_refl _, Nat.zero_le _, fun _ => rfl, fun _ h => by cases h⟩
theorem Row.step (h : Row w sz a n cap xs) (k : Step S S' w w') (hn : ∀ g, g ∈ blks a → g ∉ S) : Row w' sz a n cap xs :=
  ⟨h.len, h.le, h.max, h.nil, fun ad e => by
    obtain ⟨h1, cs, h2, h3⟩ := h.at_ ad e
    exact ⟨h1, cs, h2.step k (hn _ (by subst e; simp [blks])), h3⟩⟩
theorem Row.lt (h : Row w sz a n cap xs) : ∀ g, g ∈ blks a → g < w.heap.size := by
  intro g hg
  cases a with
  | none => simp [blks] at hg
  | some ad =>
    simp [blks] at hg
    subst hg
    obtain ⟨_, cs, h2, _⟩ := h.at_ ad rfl
    exact h2.lt
theorem Row.alloc (h : Row w sz a n cap xs) (o : Obj) : Row (w.alloc o) sz a n cap xs := h.step ((Step.refl [] w).alloc o) (by simp)
theorem Row.drew (h : Row w sz a n cap xs) : Row w.drew sz a n cap xs := h.step ((Step.refl [] w).drew) (by simp)
theorem Row.cell (h : Row w sz a n cap xs) {g off : Nat} {sp} (e : a = some ⟨g, off, sp⟩) (j : Nat) (hj : j < n * sz) : w.cell? ⟨g, off + j, Option.none⟩ = xs[j]? ∧ w.frozen? ⟨g, off + j, Option.none⟩ = false ∧ sp = Option.none := by
  obtain ⟨h1, cs, h2, h3, h4⟩ := h.at_ _ e
  have hle : n * sz ≤ cap * sz := Nat.mul_le_mul_right _ h.le
  refine ⟨?_, h2.frozen _ (by simp at h3; omega), h1⟩
  rw [h2.cell, ← h4, List.getElem?_take, if_pos hj, List.getElem?_drop, Array.getElem?_toList]
theorem Row.some_of_pos (h : Row w sz a n cap xs) (hn : 0 < n) : ∃ g off, a = some ⟨g, off, Option.none⟩ := by
  cases a with
  | none => have := h.nil rfl; have := h.le; omega
  | some ad =>
    obtain ⟨h1, _⟩ := h.at_ ad rfl
    obtain ⟨b, o, s⟩ := ad
    simp at h1
    exact ⟨b, o, by rw [h1]⟩
/-- A store into an element. -/
theorem Row.set (h : Row w sz a n cap xs) {g off : Nat} {sp} (e : a = some ⟨g, off, sp⟩) (j : Nat) (hj : j < n * sz) (u : Value) : Row (w.setCell ⟨g, off + j, Option.none⟩ u) sz a n cap (xs.set j u) :=
  ⟨by simpa using h.len, h.le, h.max, h.nil, fun ad e' => by
    obtain ⟨h1, cs, h2, h3, h4⟩ := h.at_ ad e'
    rw [e] at e'
    injection e' with e'
    subst e'
    refine ⟨h1, _, h2.set (off + j) u, by simpa using h3, ?_⟩
    rw [← h4, Array.toList_setIfInBounds]
    apply List.ext_getElem?
    intro i
    simp only [List.getElem?_take, List.getElem?_drop, List.getElem?_set, List.length_take, List.length_drop, Array.length_toList]
    have hle : n * sz ≤ cap * sz := Nat.mul_le_mul_right _ h.le
    simp at h3
    by_cases h5 : i < n * sz
    · by_cases h6 : j = i
      · subst h6
        have h7 : off + j < cs.size := by omega
        simp [h5, h7]
        exact Nat.lt_min.2 ⟨h5, by omega⟩
      · simp [h5, h6]
    · have h7 : ¬ j = i := by omega
      simp [h5, h7]⟩
/-- A slice of a slice. -/
theorem Row.sub (h : Row w sz a n cap xs) (l k : Nat) (hl : l ≤ k) (hk : k ≤ n) :
    Row w sz (if cap = l then a else a.map (·.add (l * sz))) (k - l) (cap - l) ((xs.drop (l * sz)).take ((k - l) * sz)) := by
  have hle := h.le
  have hm : (k - l) * sz ≤ n * sz - l * sz := by rw [← Nat.sub_mul]; exact Nat.mul_le_mul_right _ (by omega)
  have hcl : l * sz + (cap - l) * sz = cap * sz := by rw [← Nat.add_mul]; congr 1; omega
  refine ⟨by rw [List.length_take, List.length_drop, h.len]; omega, by omega, by have := h.max; omega, fun e => ?_, fun ad e => ?_⟩
  · split at e
    · omega
    · have : a = Option.none := by cases a <;> simp_all
      have := h.nil this
      omega
  · split at e
    · rename_i hc
      obtain ⟨h1, cs, h2, h3, h4⟩ := h.at_ ad e
      refine ⟨h1, cs, h2, ?_, ?_⟩
      · have : (cap - l) * sz ≤ cap * sz := Nat.mul_le_mul_right _ (by omega)
        omega
      · have hk0 : k - l = 0 := by omega
        simp [hk0]
    · cases a with
      | none => simp at e
      | some a0 =>
        obtain ⟨h1, cs, h2, h3, h4⟩ := h.at_ a0 rfl
        obtain ⟨b, o, s⟩ := a0
        simp at h1
        subst h1
        simp only [Option.map_some, Option.some.injEq] at e
        rw [addr_add] at e
        subst e
        refine ⟨rfl, cs, h2, by simp at h3 ⊢; omega, ?_⟩
        rw [← h4]
        simp only [List.drop_take, List.take_take, List.drop_drop]
        congr 1
        omega
end

/-- What can be read of the slice `⟨a, n, _⟩`: the cells `xs`, `sz` for each element. -/
structure Rd (w : World) (sz : Nat) (a : Option Addr) (n : Nat) (xs : List Value) : Prop where
  len : xs.length = n * sz
  some_ : 0 < n → ∃ g off, a = some ⟨g, off, none⟩
  cell : ∀ g off sp, a = some ⟨g, off, sp⟩ → ∀ (j : Nat) (u : Value), xs[j]? = some u → w.cell? ⟨g, off + j, none⟩ = some u

theorem Row.rd {w : World} {sz n cap : Nat} {a : Option Addr} {xs : List Value} (h : Row w sz a n cap xs) : Rd w sz a n xs :=
  ⟨h.len, h.some_of_pos, fun g off sp e j u hu => by
    rw [(h.cell e j (by rw [← h.len]; exact (List.getElem?_eq_some_iff.1 hu).1)).1]
    exact hu⟩

section
variable {w w' : World} {sz n cap : Nat} {a : Option Addr} {xs : List Value} {S S' : List Nat}
theorem Rd.step (h : Rd w sz a n xs) (k : Step S S' w w') (hn : ∀ g, g ∈ blks a → g ∉ S) : Rd w' sz a n xs :=
  ⟨h.len, h.some_, fun g off sp e j u hu => k.cell (h.cell g off sp e j u hu) (hn g (by subst e; simp [blks]))⟩
theorem Rd.step0 (h : Rd w sz a n xs) (k : Step [] S' w w') : Rd w' sz a n xs := h.step k (by simp)
theorem Rd.below {B : Nat} (h : Rd w sz a n xs) (k : Below B w w') (hn : ∀ g, g ∈ blks a → g < B) : Rd w' sz a n xs :=
  ⟨h.len, h.some_, fun g off sp e j u hu => (k.cell (p := ⟨g, off + j, none⟩) (hn g (by subst e; simp [blks]))).trans (h.cell g off sp e j u hu)⟩
theorem Rd.drew (h : Rd w sz a n xs) : Rd w.drew sz a n xs := h.step ((Step.refl [] w).drew) (by simp)
theorem Rd.alloc (h : Rd w sz a n xs) (o : Obj) : Rd (w.alloc o) sz a n xs := h.step ((Step.refl [] w).alloc o) (by simp)
/-- A beginning. -/
theorem Rd.take (h : Rd w sz a n xs) (k : Nat) (hk : k ≤ n) : Rd w sz a k (xs.take (k * sz)) :=
  ⟨by rw [List.length_take, h.len]; exact Nat.min_eq_left (Nat.mul_le_mul_right _ hk), fun hp => h.some_ (by omega), fun g off sp e j u hu => h.cell g off sp e j u (by
    rw [List.getElem?_take] at hu
    split at hu
    · exact hu
    · cases hu)⟩
end

/-- What may stand behind append's three points. -/
structure Src (P : Program) (w : World) (sz : Nat) (T : TypeId) (x : Value) (m : Nat) (news : List Value) : Prop where
  type : (∃ e, P.underlying T = some (.slice e)) ∨ P.underlying T = some .string
  len : ∀ w', (Builtin.lenOf x).run P w' = .ok m w'
  cells : (Builtin.firstCells sz m x).run P w = .ok news.toArray w
  cellsD : (Builtin.firstCells sz m x).run P w.drew = .ok news.toArray w.drew
  size : news.length = m * sz
  one : ∀ u ∈ news, u.oneCell' = true

theorem Src.str {P : Program} (w : World) (T : TypeId) (hT : P.underlying T = some .string) (l : List UInt8) : Src P w 1 T (Str l) l.length (l.map bv) := by
  have h : ∀ w' : World, (Builtin.firstCells 1 l.length (Str l)).run P w' = .ok (l.map bv).toArray w' := fun w' => Go.Lib.run_firstCells_string (P := P) w' 1 ⟨l.toArray⟩
  exact ⟨.inr hT, fun w' => by simp [Builtin.lenOf, ByteArray.size], h w, h w.drew, by simp, fun u hu => by simp [bv] at hu; obtain ⟨b, _, rfl⟩ := hu; rfl⟩

theorem Src.rd {P : Program} {w : World} {sz n cap : Nat} {a : Option Addr} {xs : List Value} (T e : TypeId) (hT : P.underlying T = some (.slice e)) (h : Rd w sz a n xs) (h1 : ∀ u ∈ xs, u.oneCell' = true) : Src P w sz T (.slice a n cap) n xs := by
  have hf : ∀ w' : World, Rd w' sz a n xs → (Builtin.firstCells sz n (.slice a n cap)).run P w' = .ok xs.toArray w' := by
    intro w' h'
    cases a with
    | none =>
      have hn : n = 0 := by
        rcases Nat.eq_zero_or_pos n with h0 | h0
        · exact h0
        · obtain ⟨g, off, h2⟩ := h'.some_ h0
          cases h2
      have hx : xs = [] := List.eq_nil_of_length_eq_zero (by rw [h'.len, hn]; simp)
      subst hx
      simp [Builtin.firstCells]
    | some ad =>
      refine run_firstCells_some w' sz n ad n cap xs h'.len fun j u hu => ?_
      have hj := (List.getElem?_eq_some_iff.1 hu).1
      rw [h'.len] at hj
      have hn : 0 < n := by
        rcases Nat.eq_zero_or_pos n with h0 | h0
        · rw [h0] at hj; simp at hj
        · exact h0
      obtain ⟨b, o, e⟩ := h'.some_ hn
      injection e with e
      subst e
      rw [addr_add]
      exact h'.cell b o none rfl j u hu
  exact ⟨.inl ⟨e, hT⟩, fun w' => by simp [Builtin.lenOf], hf w h, hf w.drew h.drew, h.len, h1⟩

theorem Src.row {P : Program} {w : World} {sz n cap : Nat} {a : Option Addr} {xs : List Value} (T e : TypeId) (hT : P.underlying T = some (.slice e)) (h : Row w sz a n cap xs) (h1 : ∀ u ∈ xs, u.oneCell' = true) : Src P w sz T (.slice a n cap) n xs := Src.rd T e hT h.rd h1

set_option maxHeartbeats 800000 in
/-- append. -/
theorem run_append_row {P : Program} {w : World} (t T ty e : TypeId) (i : TypeInfo) (z : Value) (sz bytes : Nat) (ht : P.underlying t = some (.slice e)) (hi : P.info? e = some i) (hz : i.zero = some z)
    (hsize : i.size = sz) (hby : i.bytes = bytes) (hzs : z.cells.size = sz) {a : Option Addr} {n cap : Nat} {xs : List Value} (hr : Row w sz a n cap xs)
    {x : Value} {m : Nat} {news : List Value} (hs : Src P w sz T x m news) (h63 : n + m ≤ maxLen) (hbytes : (n + m) * bytes ≤ 140737488355328) (hb0 : 0 < bytes) :
    ∃ a' cap' w', (Builtin.append_ #[t, T] ty #[.slice a n cap, x]).run P w = .ok (.slice a' (n + m) cap') w' ∧ Row w' sz a' (n + m) cap' (xs ++ news) ∧ Step (blks a) (blks a') w w' ∧ Rd w' sz a n xs := by
  subst hsize
  subst hby
  have hnot : ∃ u, P.underlying T = some u ∧ ((match u with | .int _ => true | _ => false) = false) := by
    rcases hs.type with ⟨e', h⟩ | h
    · exact ⟨_, h, rfl⟩
    · exact ⟨_, h, rfl⟩
  obtain ⟨u, hT, hu⟩ := hnot
  have hlen : (xs ++ news).length = (n + m) * i.size := by rw [List.length_append, hr.len, hs.size, Nat.add_mul]
  have hl := hs.len
  by_cases hroom : n + m ≤ cap
  · cases a with
    | none =>
      have hc := hr.nil rfl
      have hn : n = 0 := by omega
      have hm : m = 0 := by omega
      subst hn hm
      have hx : xs = [] := List.eq_nil_of_length_eq_zero (by rw [hr.len]; simp)
      have hy : news = [] := List.eq_nil_of_length_eq_zero (by rw [hs.size]; simp)
      subst hx hy
      refine ⟨none, cap, w, ?_, by simpa using hr, Step.refl _ _, hr.rd⟩
      have hc' := hs.cells
      rcases hs.type with ⟨e', h⟩ | h <;>
      simp [Builtin.append_, run_underlying ht, run_underlying h, sizeOf, typeInfo, hi, hl, hc']
    | some ad =>
      obtain ⟨b, o, s⟩ := ad
      obtain ⟨hsp, cs, h2, h3, h4⟩ := hr.at_ _ rfl
      simp at hsp h3 h4
      subst hsp
      have hfit : o + n * i.size + news.length ≤ cs.size := by
        have h5 : (n + m) * i.size ≤ cap * i.size := Nat.mul_le_mul_right _ hroom
        rw [Nat.add_mul] at h5
        rw [hs.size]
        omega
      have hst := run_storeCells_cellsRow (P := P) b (o + n * i.size) news 0 cs w h2 (by simpa using hfit) hs.one
      simp only [Nat.add_zero] at hst
      refine ⟨some ⟨b, o, none⟩, cap, w.setRow b (cs.toList.take (o + n * i.size) ++ news ++ cs.toList.drop (o + n * i.size + news.length)).toArray, ?_, ?_⟩
      · have hc' := hs.cells
        rcases hs.type with ⟨e', h⟩ | h <;>
        simp [Builtin.append_, run_underlying ht, run_underlying h, sizeOf, typeInfo, hi, hl, hc', hroom, addr_add, hst]
      · have R' : Row (w.setRow b (cs.toList.take (o + n * i.size) ++ news ++ cs.toList.drop (o + n * i.size + news.length)).toArray) i.size (some ⟨b, o, none⟩) (n + m) cap (xs ++ news) := by
          have hsz : (cs.toList.take (o + n * i.size) ++ news ++ cs.toList.drop (o + n * i.size + news.length)).toArray.size = cs.size := by simp; omega
          refine ⟨hlen, hroom, hr.max, (fun h => by cases h), fun ad e => ?_⟩
          injection e with e
          subst e
          refine ⟨rfl, _, h2.setRow _ hsz, by rw [hsz]; exact h3, ?_⟩
          have hxl := hr.len
          have e1 : (List.take (o + n * i.size) cs.toList).drop o = xs := by
            rw [List.drop_take]
            rw [show o + n * i.size - o = n * i.size by omega, h4]
          have e2 : o ≤ (List.take (o + n * i.size) cs.toList).length := by rw [List.length_take, Array.length_toList]; omega
          show List.take ((n + m) * i.size) (List.drop o (List.take (o + n * i.size) cs.toList ++ news ++ List.drop (o + n * i.size + news.length) cs.toList)) = xs ++ news
          rw [List.append_assoc, List.drop_append_of_le_length e2, e1, ← hlen, ← List.append_assoc, List.take_left]
        refine ⟨R', ⟨rfl, rfl, rfl, by simp, fun k _ hk => setRow_other w b k _ (by simpa [blks] using hk), fun k hk => .inl (by simpa [blks] using hk)⟩, ?_⟩
        have ht := R'.rd.take n (Nat.le_add_right _ _)
        rwa [List.take_left' hr.len] at ht
  · have h63' : ¬ (9223372036854775807 < ((n : Int) + (m : Int))) := by simp only [maxLen] at h63; omega
    have h48' : ¬ (281474976710656 < Builtin.nextslicecap (n + m) cap * i.bytes) := by
      have := growslice_fits (need := n + m) (old := cap) (bytes := i.bytes) (by omega) hbytes
      omega
    have hfo : (Builtin.firstCells i.size n (.slice a n cap)).run P w.drew = .ok xs.toArray w.drew := by
      cases a with
      | none =>
        have hc := hr.nil rfl
        have hn : n = 0 := by have := hr.le; omega
        have hx : xs = [] := List.eq_nil_of_length_eq_zero (by rw [hr.len, hn]; simp)
        subst hx
        simp [Builtin.firstCells]
      | some ad =>
        obtain ⟨b, o, s⟩ := ad
        obtain ⟨hsp, _⟩ := hr.at_ _ rfl
        simp at hsp
        subst hsp
        refine run_firstCells_some w.drew i.size n ⟨b, o, none⟩ n cap xs hr.len fun j u hu => ?_
        rw [addr_add, (hr.drew.cell rfl j (by rw [← hr.len]; exact (List.getElem?_eq_some_iff.1 hu).1)).1]
        exact hu
    have hcD := hs.cellsD
    have hge := grownCap_ge w (n + m) cap e
    have hcm := grownCap_le_maxLen w (n + m) cap e h63
    refine ⟨some ⟨w.heap.size, 0, none⟩, grownCap w (n + m) cap e, w.drew.alloc (.cells (xs.toArray ++ news.toArray ++ Builtin.zeroCells z.cells (grownCap w (n + m) cap e - (n + m))) e), ?_, ?_, ?_, hr.rd.step ((Step.refl [] w).drew.alloc _) (by simp)⟩
    · rcases hs.type with ⟨e', h⟩ | h <;>
      · simp [Builtin.append_, run_underlying ht, run_underlying h, sizeOf, typeInfo, zeroValue, hi, hz, hl, hroom, h63', h48', Question.forced, hcD, hfo, newRow, grownCap]
        congr 2
        apply Array.ext'
        simp [List.append_assoc]
    · have hsz : (xs.toArray ++ news.toArray ++ Builtin.zeroCells z.cells (grownCap w (n + m) cap e - (n + m))).size = grownCap w (n + m) cap e * i.size := by
        simp only [Array.size_append, List.size_toArray, size_zeroCells, hzs, hr.len, hs.size, ← Nat.add_mul]
        congr 1
        omega
      refine ⟨hlen, hge, hcm, (fun h => by cases h), fun ad e => ?_⟩
      injection e with e
      subst e
      refine ⟨rfl, _, (Blk.new w.drew _ _).cells, by rw [hsz]; simp, ?_⟩
      simp only [List.drop_zero, Array.toList_append, List.append_assoc]
      rw [← List.append_assoc, ← hlen]
      exact List.take_left
    · exact ⟨rfl, rfl, rfl, by simp, fun k hk _ => Below.heap_alloc w.drew _ k hk, fun k hk => .inr (by simp [blks] at hk; omega)⟩

section
variable {P : Program} {w : World}

/-- append, at the operation. -/
theorem wp_append_row {o : Oper} {ac : Act} {K : Act → World → Prop} {Q : Exit → Act → World → Prop} (sl x : Operand) (t T : TypeId)
    (ho : o.op = .call { callee := .builtin .append, args := #[sl, x], argTypes := #[t, T] })
    (e : TypeId) (i : TypeInfo) (z : Value) (sz bytes : Nat) (ht : P.underlying t = some (.slice e)) (hi : P.info? e = some i) (hz : i.zero = some z)
    (hsize : i.size = sz) (hby : i.bytes = bytes) (hzs : z.cells.size = sz) {a : Option Addr} {n cap : Nat} {xs : List Value} (hv : ac.eval sl = .slice a n cap) (hr : Row w sz a n cap xs)
    {y : Value} {m : Nat} {news : List Value} (hx : ac.eval x = y) (hs : Src P w sz T y m news) (h63 : n + m ≤ maxLen) (hbytes : (n + m) * bytes ≤ 140737488355328) (hb0 : 0 < bytes)
    (h : ∀ a' cap' w', Row w' sz a' (n + m) cap' (xs ++ news) → Step (blks a) (blks a') w w' → K (ac.put o.dst (.slice a' (n + m) cap')) w') : o.wp P ac w K Q := by
  obtain ⟨a', cap', w', hrun, h2, h3, _⟩ := run_append_row (P := P) t T o.type e i z sz bytes ht hi hz hsize hby hzs hr hs h63 hbytes hb0
  unfold Oper.wp execOp
  simp only [ho, resolve, invoke, builtin, Sem.run_bind, Sem.run_pure, Result.andThen_ok, List.map_toArray, List.map_cons, List.map_nil, hv, hx, hrun]
  exact h a' cap' w' h2 h3

theorem wpList_append_row {ops : Array Oper} {rest : List Oper} {o : Oper} {ac : Act} {Q : Exit → Act → World → Prop} (hgd : o.guard = none) (sl x : Operand) (t T : TypeId)
    (ho : o.op = .call { callee := .builtin .append, args := #[sl, x], argTypes := #[t, T] })
    (e : TypeId) (i : TypeInfo) (z : Value) (sz bytes : Nat) (ht : P.underlying t = some (.slice e)) (hi : P.info? e = some i) (hz : i.zero = some z)
    (hsize : i.size = sz) (hby : i.bytes = bytes) (hzs : z.cells.size = sz) {a : Option Addr} {n cap : Nat} {xs : List Value} (hv : ac.eval sl = .slice a n cap) (hr : Row w sz a n cap xs)
    {y : Value} {m : Nat} {news : List Value} (hx : ac.eval x = y) (hs : Src P w sz T y m news) (h63 : n + m ≤ maxLen) (hbytes : (n + m) * bytes ≤ 140737488355328) (hb0 : 0 < bytes)
    (h : ∀ a' cap' w', Row w' sz a' (n + m) cap' (xs ++ news) → Step (blks a) (blks a') w w' → wpList P ops Q rest (ac.put o.dst (.slice a' (n + m) cap')) w') : wpList P ops Q (o :: rest) ac w :=
  wpList_plain hgd fun _ hK => wp_append_row sl x t T ho e i z sz bytes ht hi hz hsize hby hzs hv hr hx hs h63 hbytes hb0 fun a' cap' w' h2 h3 => hK _ _ (h a' cap' w' h2 h3)

/-- 'string(b)'. -/
theorem run_str_of_row (src dst e : TypeId) (hs : P.underlying src = some (.slice e)) (he : P.underlying e = some (.int .u8)) (hd : P.underlying dst = some .string)
    {a : Option Addr} {n cap : Nat} {l : List UInt8} (h : Row w 1 a n cap (l.map bv)) : (convert src dst (.slice a n cap)).run P w = .ok (Str l) w := by
  have hl : l.length = n := by simpa using h.len
  cases a with
  | none =>
    have hc := h.nil rfl
    have : l = [] := List.eq_nil_of_length_eq_zero (by have := h.le; omega)
    subst this
    rw [run_convert_bytes_nil w src e hs he n cap dst hd]
    rfl
  | some ad =>
    obtain ⟨b, o, s⟩ := ad
    obtain ⟨hsp, _⟩ := h.at_ _ rfl
    simp at hsp
    subst hsp
    refine run_str_of_cells w src dst e hs he hd b o n cap l hl fun j u hu => ?_
    rw [(h.cell rfl j (by
      have := (List.getElem?_eq_some_iff.1 hu).1
      simp at this
      omega)).1]
    exact hu

/-- 'string([]byte{x})'. -/
theorem run_str_one (src dst e : TypeId) (hs : P.underlying src = some (.slice e)) (he : P.underlying e = some (.int .u8)) (hd : P.underlying dst = some .string) (w : World) (x : Int) (T : TypeId) (h0 : 0 ≤ x) (h1 : x < 256) :
    (convert src dst (.slice (some ⟨w.heap.size, 0, none⟩) 1 1)).run P (w.alloc (.cells #[.int .u8 x] T)) = .ok (Str [UInt8.ofNat x.toNat]) (w.alloc (.cells #[.int .u8 x] T)) := by
  refine run_str_of_blk (Blk.new w T #[.int .u8 x]) src dst e hs he hd 0 1 1 [UInt8.ofNat x.toNat] rfl ?_
  have : ((UInt8.ofNat x.toNat).toNat : Int) = x := by simp [UInt8.toNat_ofNat']; omega
  simp [bv]
  omega

/-- '[]byte(s)'. -/
theorem run_row_of_str (src dst e : TypeId) (l : List UInt8) (hs : P.underlying src = some .string) (hd : P.underlying dst = some (.slice e)) (he : P.underlying e = some (.int .u8)) (hl : l.length ≤ maxLen) :
    ∃ a cap w', (convert src dst (Str l)).run P w = .ok (.slice (some ⟨a, 0, none⟩) l.length cap) w' ∧ Row w' 1 (some ⟨a, 0, none⟩) l.length cap (l.map bv) ∧ Step [] [a] w w' ∧ a = w.heap.size := by
  refine ⟨w.heap.size, _, _, run_bytes_of_string w src dst e ⟨l.toArray⟩ hs hd he, ?_, ?_, rfl⟩
  · have hge := grownCap_ge w l.length 0 e
    have hcm := grownCap_le_maxLen w l.length 0 e hl
    have hsz : (bytesRow ⟨l.toArray⟩ (grownCap w l.length 0 e)).size = grownCap w l.length 0 e := by
      simp [bytesRow, ByteArray.size]
      omega
    refine ⟨by simp, hge, hcm, (fun h => by cases h), fun ad h => ?_⟩
    injection h with h
    subst h
    refine ⟨rfl, _, ⟨e, _, heap_alloc_new w.drew _, fun j hj => by simp [ByteArray.size] at hj ⊢; omega⟩, ?_, ?_⟩
    · rw [show (ByteArray.size ⟨l.toArray⟩) = l.length by simp [ByteArray.size], hsz]; simp
    · have e1 : (bytesRow ⟨l.toArray⟩ (grownCap w l.length 0 e)).toList = l.map bv ++ List.replicate (grownCap w l.length 0 e - l.length) (.int .u8 0) := by
        simp [bytesRow, ByteArray.size, bv]
      rw [show (ByteArray.size ⟨l.toArray⟩) = l.length by simp [ByteArray.size], e1]
      simp
  · exact ⟨rfl, rfl, rfl, by simp, fun k hk _ => Below.heap_alloc w.drew _ k hk, fun k hk => .inr (by simp at hk; omega)⟩
end
end Go.Proofs.YtfkjgkgflkhbnaaDoor
