/-
  Blocks written whole. No condition.
-/
import Derived.Test.YtfkjgkgflkhbnaaDoorMem2
import Derived.Laws.Tables
import Derived.Deep.Cut
import Derived.StillTailTactics
import Derived.ChangeKeysEq
import Derived.Deep.RegionHeld3
import Derived.Deep.QuietTactic
import Derived.BigQuiet
namespace Go.Proofs.YtfkjgkgflkhbnaaDoor
open Go.RowKit
set_option linter.unusedSimpArgs false
set_option linter.unusedVariables false

theorem Blk.setRow {w : World} {g : Nat} {t : TypeId} {cs : Array Value} (h : Blk w g t cs) (cs' : Array Value) : Blk (w.setRow g cs') g t cs' := setRow_heap w g cs _ t _ h
theorem Step.setRow {S S' : List Nat} {w w' : World} (h : Step S S' w w') {g : Nat} (hg : g ∈ S' ∨ w.heap.size ≤ g) (cs : Array Value) : Step S S' w (w'.setRow g cs) :=
  ⟨h.os, h.tape, h.output, by simpa using h.size, fun k hk hn => (setRow_other w' g k cs (by
    rintro rfl
    rcases hg with hp | hp
    · rcases h.fresh _ hp with h1 | h1
      · exact hn h1
      · omega
    · omega)).trans (h.block k hk hn), h.fresh⟩
theorem Blk.farRow {w : World} {g : Nat} {t : TypeId} {cs : Array Value} (h : Blk w g t cs) {p : Nat} (hp : g ≠ p) (cs' : Array Value) : Blk (w.setRow p cs') g t cs := (setRow_other w p g cs' hp).trans h
/-- A region that draws, all but its tail only reads: the library's law, the world behind the draw by its name. -/
theorem still_tail {P : Program} {id : Nat} {Q : Exit → Act → World → Prop} {a : Act} {w : World} {l : List Oper} (n : Nat) (hm : P.follows .mixedOrders = true) (hB : Region.lexTailB .any l.toArray n = true)
    (h : wpStill P l.toArray w.drew (fun a' => wpList P l.toArray Q (l.drop n) a' w.drew) (l.take n) a) : (Code.region id l.toArray true).wp P Q a w := wp_region_still_tail n hm hB h
theorem cell_drewN {W w : World} {n : Nat} (h : W = w.drewN n) {p : Addr} {v : Option Value} (c : w.cell? p = v) : W.cell? p = v := by subst h; exact c
theorem frozen_drewN {W w : World} {n : Nat} (h : W = w.drewN n) {p : Addr} {v : Bool} (c : w.frozen? p = v) : W.frozen? p = v := by subst h; exact c
/-- 'a[k]' of an array by value, its elements of one cell. -/
theorem run_index_arr {P : Program} {w : World} (t e : TypeId) (n : Nat) (hu : P.underlying t = some (.array n e)) (hs : (P.info? e).map (·.size) = some 1) (hp : P.plainKey e = true) (cs : Array Value) (k : Nat) (hk : k < n) (v : Value) (hv : cs[k]? = some v) :
    (Instr.index t (.agg cs) (.int .i64 (k : Int))).run P w = .ok v w := by
  have h : 0 ≤ (k : Int) ∧ (k : Int) < (n : Int) := by omega
  cases hi : P.info? e with
  | none => simp [hi] at hs
  | some i =>
    have hs' : i.size = 1 := by simpa [hi] using hs
    simp [Instr.index, asIntOf, run_underlying hu, hk, sizeOf, typeInfo, hi, hs', run_part_plain w hp hv]
/-- A callee that only answers, in a region that reads: at the world behind some draws. -/
theorem quiet_l {P : Program} {f : FuncId} {args : Array Value} {w : World} {a n : Nat} {v : Value} (h : ∀ W : World, Calls P f args W fun e w' => e = .returned v ∧ W = w') :
    Calls P f args (w.drewN (a + n)) fun e w'' => e = .returned v ∧ ∃ m, w'' = w.drewN (a + m) := (h _).mono fun _ _ ⟨he, hm⟩ => ⟨he, n, hm.symm⟩
theorem quiet_o {P : Program} {f : FuncId} {args : Array Value} {w : World} {n : Nat} {v : Value} (h : ∀ W : World, Calls P f args W fun e w' => e = .returned v ∧ W = w') :
    Calls P f args (w.drewN n) fun e w'' => e = .returned v ∧ ∃ m, w'' = w.drewN m := (h _).mono fun _ _ ⟨he, hm⟩ => ⟨he, n, hm.symm⟩
end Go.Proofs.YtfkjgkgflkhbnaaDoor
