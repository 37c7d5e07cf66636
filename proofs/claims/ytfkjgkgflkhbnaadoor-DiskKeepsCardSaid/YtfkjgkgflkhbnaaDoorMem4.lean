/-
  append at a step of a region that draws its order. No condition.
-/
import Derived.Test.YtfkjgkgflkhbnaaDoorMem3
namespace Go.Proofs.YtfkjgkgflkhbnaaDoor
open Go.RowKit
set_option linter.unusedSimpArgs false
set_option linter.unusedVariables false

/-- append, at a step of a region that draws. -/
theorem step_append_row {P : Program} {w : World} {ops : Array Oper} {o : Oper} {ac : Act} {K : Act → World → Prop} {Q : Exit → Act → World → Prop} {E : Prop} (hgd : o.guard = none) (sl x : Operand) (t T : TypeId)
    (ho : o.op = .call { callee := .builtin .append, args := #[sl, x], argTypes := #[t, T] })
    (e : TypeId) (i : TypeInfo) (z : Value) (sz bytes : Nat) (ht : P.underlying t = some (.slice e)) (hi : P.info? e = some i) (hz : i.zero = some z)
    (hsize : i.size = sz) (hby : i.bytes = bytes) (hzs : z.cells.size = sz) {a : Option Addr} {n cap : Nat} {xs : List Value} (hv : ac.eval sl = .slice a n cap) (hr : Row w sz a n cap xs)
    {y : Value} {m : Nat} {news : List Value} (hx : ac.eval x = y) (hs : Src P w sz T y m news) (h63 : n + m ≤ maxLen) (hbytes : (n + m) * bytes ≤ 140737488355328) (hb0 : 0 < bytes)
    (h : ∀ a' cap' w', Row w' sz a' (n + m) cap' (xs ++ news) → Step (blks a) (blks a') w w' → K (ac.put o.dst (.slice a' (n + m) cap')) w') :
    if Region.wanted o (yielded ops ac.tmps) = true then o.wp P ac w K Q else E := by
  have hw : Region.wanted o (yielded ops ac.tmps) = true := by simp [Region.wanted, hgd]
  rw [if_pos hw]
  exact wp_append_row sl x t T ho e i z sz bytes ht hi hz hsize hby hzs hv hr hx hs h63 hbytes hb0 h
/-- .., and what could be read of the slice ahead of it can be read behind it. -/
theorem step_append_rd {P : Program} {w : World} {ops : Array Oper} {o : Oper} {ac : Act} {K : Act → World → Prop} {Q : Exit → Act → World → Prop} {E : Prop} (hgd : o.guard = none) (sl x : Operand) (t T : TypeId)
    (ho : o.op = .call { callee := .builtin .append, args := #[sl, x], argTypes := #[t, T] })
    (e : TypeId) (i : TypeInfo) (z : Value) (sz bytes : Nat) (ht : P.underlying t = some (.slice e)) (hi : P.info? e = some i) (hz : i.zero = some z)
    (hsize : i.size = sz) (hby : i.bytes = bytes) (hzs : z.cells.size = sz) {a : Option Addr} {n cap : Nat} {xs : List Value} (hv : ac.eval sl = .slice a n cap) (hr : Row w sz a n cap xs)
    {y : Value} {m : Nat} {news : List Value} (hx : ac.eval x = y) (hs : Src P w sz T y m news) (h63 : n + m ≤ maxLen) (hbytes : (n + m) * bytes ≤ 140737488355328) (hb0 : 0 < bytes)
    (h : ∀ a' cap' w', Row w' sz a' (n + m) cap' (xs ++ news) → Step (blks a) (blks a') w w' → Rd w' sz a n xs → K (ac.put o.dst (.slice a' (n + m) cap')) w') :
    if Region.wanted o (yielded ops ac.tmps) = true then o.wp P ac w K Q else E := by
  have hw : Region.wanted o (yielded ops ac.tmps) = true := by simp [Region.wanted, hgd]
  rw [if_pos hw]
  obtain ⟨a', cap', w', hrun, h2, h3, h4⟩ := run_append_row (P := P) t T o.type e i z sz bytes ht hi hz hsize hby hzs hr hs h63 hbytes hb0
  unfold Oper.wp execOp
  simp only [ho, resolve, invoke, builtin, Sem.run_bind, Sem.run_pure, Result.andThen_ok, List.map_toArray, List.map_cons, List.map_nil, hv, hx, hrun]
  exact h a' cap' w' h2 h3 h4
end Go.Proofs.YtfkjgkgflkhbnaaDoor
