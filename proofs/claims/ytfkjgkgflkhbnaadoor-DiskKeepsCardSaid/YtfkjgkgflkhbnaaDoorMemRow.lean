/-
  A whole struct loaded from, stored into a block of its own, as one step of a walk. Plain lemmas.
-/
import Derived.Test.YtfkjgkgflkhbnaaDoorPutL
import Derived.Test.YtfkjgkgflkhbnaaDoorMem3
import Derived.Laws.Rows
import Derived.Laws.Tables
import Derived.Laws.ResultCell
namespace Go.Proofs.YtfkjgkgflkhbnaaDoor
open Go.RowKit
set_option linter.unusedSimpArgs false
set_option linter.unusedVariables false

/-- The type's size, and that it is a struct. -/
def StructOf (P : Program) (T : TypeId) (n : Nat) : Prop := (P.info? T).map (·.size) = some n ∧ ∃ fs, P.underlying T = some (.struct fs)
section
variable {P : Program} {w : World} {o : Oper} {ac : Act} {K : Act → World → Prop} {Q : Exit → Act → World → Prop} {b : Nat} {T T' : TypeId} {cs vs : Array Value}
theorem run_storeRow (hT : StructOf P T vs.size) (h : Blk w b T' cs) (hs : cs.size = vs.size) (h1 : vs.all (·.oneCell') = true) :
    (Instr.storeAt T (.pointer (some ⟨b, 0, none⟩)) (.agg vs)).run P w = .ok () (w.setRow b vs) := by
  simp only [Instr.storeAt, Instr.sureAddr, Sem.run_bind, Sem.run_pure, Result.andThen]
  exact run_storeVar_row w b T' T cs vs h hT.1 hs h1
theorem run_loadRow (hT : StructOf P T cs.size) (h : Blk w b T' cs) : (Instr.loadAt T (.pointer (some ⟨b, 0, none⟩))).run P w = .ok (.agg cs) w := by
  obtain ⟨fs, hf⟩ := hT.2
  simp only [Instr.loadAt, Instr.sureAddr, Sem.run_bind, Sem.run_pure, Result.andThen]
  exact run_loadVar_row w b T' T cs (0, 0) (.struct fs) h hf rfl hT.1
theorem wp_storeRow (p x : Operand) (ho : o.op = .store T p x) (hp : ac.eval p = .pointer (some ⟨b, 0, none⟩)) (hx : ac.eval x = .agg vs) (hT : StructOf P T vs.size) (h : Blk w b T' cs) (hs : cs.size = vs.size) (h1 : vs.all (·.oneCell') = true)
    (k : ∀ w', Blk w' b T' vs → Step [b] [b] w w' → K (ac.put o.dst undef) w') : o.wp P ac w K Q := by
  have hrun := run_storeRow (P := P) hT h hs h1
  unfold Oper.wp execOp
  simp only [ho, hp, hx, Sem.run_bind, hrun, Result.andThen_ok, Sem.run_pure]
  exact k _ (Blk.setRow h vs) ((Step.refl [b] w).setRow (.inl (by simp)) vs)
theorem wp_loadRow (p : Operand) (ho : o.op = .load T p) (hp : ac.eval p = .pointer (some ⟨b, 0, none⟩)) (hT : StructOf P T cs.size) (h : Blk w b T' cs)
    (k : K (ac.put o.dst (.agg cs)) w) : o.wp P ac w K Q := by
  have hrun := run_loadRow (P := P) hT h
  unfold Oper.wp execOp
  simp only [ho, hp, Sem.run_bind, hrun, Result.andThen_ok, Sem.run_pure]
  exact k
theorem wpList_storeRow {ops : Array Oper} {rest : List Oper} (hgd : o.guard = none) (p x : Operand) (ho : o.op = .store T p x) (hp : ac.eval p = .pointer (some ⟨b, 0, none⟩)) (hx : ac.eval x = .agg vs) (hT : StructOf P T vs.size) (h : Blk w b T' cs) (hs : cs.size = vs.size) (h1 : vs.all (·.oneCell') = true)
    (k : ∀ w', Blk w' b T' vs → Step [b] [b] w w' → wpList P ops Q rest (ac.put o.dst undef) w') : wpList P ops Q (o :: rest) ac w :=
  wpList_plain hgd fun _ hK => wp_storeRow p x ho hp hx hT h hs h1 fun w' h2 h3 => hK _ _ (k w' h2 h3)
theorem wpList_loadRow {ops : Array Oper} {rest : List Oper} (hgd : o.guard = none) (p : Operand) (ho : o.op = .load T p) (hp : ac.eval p = .pointer (some ⟨b, 0, none⟩)) (hT : StructOf P T cs.size) (h : Blk w b T' cs)
    (k : wpList P ops Q rest (ac.put o.dst (.agg cs)) w) : wpList P ops Q (o :: rest) ac w :=
  wpList_plain hgd fun _ hK => wp_loadRow p ho hp hT h (hK _ _ k)
end
theorem res_row {P : Program} {fn : Func} {p : Tmp} {T T' : TypeId} {cs : Array Value} {w : World} {b : Nat} (h : fn.results = #[.cell p T]) (tmps : Array Value) (hp : tmps.getD p undef = .pointer (some ⟨b, 0, none⟩)) (hT : StructOf P T cs.size) (hb : Blk w b T' cs) :
    (results fn tmps).run P w = .ok (.agg cs) w := by
  obtain ⟨fs, hf⟩ := hT.2
  exact results_cell_row h tmps w b T' cs (0, 0) (.struct fs) hp hb hf rfl hT.1
theorem res_row2 {P : Program} {fn : Func} {p u : Tmp} {T T' : TypeId} {cs : Array Value} {w : World} {b : Nat} (h : fn.results = #[.cell p T, .tmp u]) (tmps : Array Value) (hp : tmps.getD p undef = .pointer (some ⟨b, 0, none⟩)) (hT : StructOf P T cs.size) (hb : Blk w b T' cs) :
    (results fn tmps).run P w = .ok (.tuple #[.agg cs, tmps.getD u undef]) w := by
  obtain ⟨fs, hf⟩ := hT.2
  rw [results_cell_tmp h, hp]
  have := run_loadVar_row (P := P) w b T' T cs (0, 0) (.struct fs) hb hf rfl hT.1
  simp [asAddr, Result.andThen, this]
/-! ### a value into the midst of a block -/
section
variable {P : Program} {w : World} {o : Oper} {ac : Act} {K : Act → World → Prop} {Q : Exit → Act → World → Prop} {b i : Nat} {T T' : TypeId} {cs cs' : Array Value} {v : Value}
theorem run_storeOff (hi : (P.info? T).map (·.size) = some v.cells.size) (h : Blk w b T' cs) (hl : i + v.cells.size ≤ cs.size) (h1 : v.cells.all (·.oneCell') = true) :
    (Instr.storeAt T (.pointer (some ⟨b, i, none⟩)) v).run P w = .ok () (w.setRow b (cs.toList.take i ++ v.cells.toList ++ cs.toList.drop (i + v.cells.size)).toArray) := by
  have h2 := run_storeCells_cellsRow (P := P) b i v.cells.toList 0 cs w h.cells (by simpa using hl) (fun u hu => (Array.all_eq_true_iff_forall_mem.1 h1) u (by simpa using hu))
  rw [Nat.add_zero, Array.length_toList] at h2
  simp only [Instr.storeAt, Instr.sureAddr, Sem.run_bind, Sem.run_pure, Result.andThen]
  cases hq : P.info? T with
  | none => simp [hq] at hi
  | some inf =>
    have hs : v.cells.size = inf.size := by simp [hq] at hi; omega
    simp only [storeVar, sizeOf, typeInfo, hq, hs] at h2 ⊢
    simpa [hq, hs] using h2
theorem wp_storeOff (p x : Operand) (ho : o.op = .store T p x) (hp : ac.eval p = .pointer (some ⟨b, i, none⟩)) (hx : ac.eval x = v) (hi : (P.info? T).map (·.size) = some v.cells.size) (h : Blk w b T' cs) (hl : i + v.cells.size ≤ cs.size) (h1 : v.cells.all (·.oneCell') = true)
    (hcs : (cs.toList.take i ++ v.cells.toList ++ cs.toList.drop (i + v.cells.size)).toArray = cs') (k : ∀ w', Blk w' b T' cs' → Step [b] [b] w w' → K (ac.put o.dst undef) w') : o.wp P ac w K Q := by
  have hrun := run_storeOff (P := P) hi h hl h1
  rw [hcs] at hrun
  unfold Oper.wp execOp
  simp only [ho, hp, hx, Sem.run_bind, hrun, Result.andThen_ok, Sem.run_pure]
  exact k _ (Blk.setRow h cs') ((Step.refl [b] w).setRow (.inl (by simp)) cs')
theorem step_storeOff {ops : Array Oper} {E : Prop} (hgd : o.guard = none) (p x : Operand) (ho : o.op = .store T p x) (hp : ac.eval p = .pointer (some ⟨b, i, none⟩)) (hx : ac.eval x = v) (hi : (P.info? T).map (·.size) = some v.cells.size) (h : Blk w b T' cs) (hl : i + v.cells.size ≤ cs.size) (h1 : v.cells.all (·.oneCell') = true)
    (hcs : (cs.toList.take i ++ v.cells.toList ++ cs.toList.drop (i + v.cells.size)).toArray = cs') (k : ∀ w', Blk w' b T' cs' → Step [b] [b] w w' → K (ac.put o.dst undef) w') :
    if Region.wanted o (yielded ops ac.tmps) = true then o.wp P ac w K Q else E := by
  have hw : Region.wanted o (yielded ops ac.tmps) = true := by simp [Region.wanted, hgd]
  rw [if_pos hw]
  exact wp_storeOff p x ho hp hx hi h hl h1 hcs k
theorem wpList_storeOff {ops : Array Oper} {rest : List Oper} (hgd : o.guard = none) (p x : Operand) (ho : o.op = .store T p x) (hp : ac.eval p = .pointer (some ⟨b, i, none⟩)) (hx : ac.eval x = v) (hi : (P.info? T).map (·.size) = some v.cells.size) (h : Blk w b T' cs) (hl : i + v.cells.size ≤ cs.size) (h1 : v.cells.all (·.oneCell') = true)
    (hcs : (cs.toList.take i ++ v.cells.toList ++ cs.toList.drop (i + v.cells.size)).toArray = cs') (k : ∀ w', Blk w' b T' cs' → Step [b] [b] w w' → wpList P ops Q rest (ac.put o.dst undef) w') : wpList P ops Q (o :: rest) ac w :=
  wpList_plain hgd fun _ hK => wp_storeOff p x ho hp hx hi h hl h1 hcs fun w' h2 h3 => hK _ _ (k w' h2 h3)
end
end Go.Proofs.YtfkjgkgflkhbnaaDoor
