/-
  More on rows: append whose outcome is not empty, with its place written out; the empty literal. No condition.
-/
import Derived.Test.YtjdmigoindhdnaaMem
namespace Go.Proofs.Ytjdmigoindhdnaa
open Go.RowKit
set_option linter.unusedSimpArgs false
set_option linter.unusedVariables false

section
variable {P : Program} {w : World}
theorem wpList_append_some {ops : Array Oper} {rest : List Oper} {o : Oper} {ac : Act} {Q : Exit → Act → World → Prop} (hgd : o.guard = none) (sl x : Operand) (t T : TypeId)
    (ho : o.op = .call { callee := .builtin .append, args := #[sl, x], argTypes := #[t, T] })
    (e : TypeId) (i : TypeInfo) (z : Value) (sz bytes : Nat) (ht : P.underlying t = some (.slice e)) (hi : P.info? e = some i) (hz : i.zero = some z)
    (hsize : i.size = sz) (hby : i.bytes = bytes) (hzs : z.cells.size = sz) {a : Option Addr} {n cap : Nat} {xs : List Value} (hv : ac.eval sl = .slice a n cap) (hr : Row w sz a n cap xs)
    {y : Value} {m : Nat} {news : List Value} (hx : ac.eval x = y) (hs : Src P w sz T y m news) (h63 : n + m ≤ maxLen) (hbytes : (n + m) * bytes ≤ 140737488355328) (hb0 : 0 < bytes) (hpos : 0 < n + m)
    (h : ∀ g off cap' w', Row w' sz (some ⟨g, off, none⟩) (n + m) cap' (xs ++ news) → Step (blks a) [g] w w' → wpList P ops Q rest (ac.put o.dst (.slice (some ⟨g, off, none⟩) (n + m) cap')) w') : wpList P ops Q (o :: rest) ac w :=
  wpList_append_row hgd sl x t T ho e i z sz bytes ht hi hz hsize hby hzs hv hr hx hs h63 hbytes hb0 fun a' cap' w' h2 h3 => by
    obtain ⟨g, off, e⟩ := h2.some_of_pos hpos
    subst e
    exact h g off cap' w' h2 h3
end
end Go.Proofs.Ytjdmigoindhdnaa
