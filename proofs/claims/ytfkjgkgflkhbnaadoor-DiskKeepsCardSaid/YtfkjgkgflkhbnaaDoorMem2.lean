/-
  More on rows: append whose outcome is not empty, with its place written out; the empty literal. No condition.
-/
import Derived.Test.YtfkjgkgflkhbnaaDoorMem
namespace Go.Proofs.YtfkjgkgflkhbnaaDoor
open Go.RowKit
set_option linter.unusedSimpArgs false
set_option linter.unusedVariables false

/-- What is held besides. -/
theorem Step.frame {S S' : List Nat} {w w' : World} (h : Step S S' w w') (T : List Nat) : Step (T ++ S) (T ++ S') w w' :=
  ⟨h.os, h.tape, h.output, h.size, fun k hk hn => h.block k hk fun hm => hn (List.mem_append.2 (.inr hm)), fun k hk => by
    rcases List.mem_append.1 hk with h1 | h1
    · exact .inl (List.mem_append.2 (.inl h1))
    · rcases h.fresh k h1 with h2 | h2
      · exact .inl (List.mem_append.2 (.inr h2))
      · exact .inr h2⟩
theorem Step.frameR {S S' : List Nat} {w w' : World} (h : Step S S' w w') (T : List Nat) : Step (S ++ T) (S' ++ T) w w' :=
  ⟨h.os, h.tape, h.output, h.size, fun k hk hn => h.block k hk fun hm => hn (List.mem_append.2 (.inl hm)), fun k hk => by
    rcases List.mem_append.1 hk with h1 | h1
    · rcases h.fresh k h1 with h2 | h2
      · exact .inl (List.mem_append.2 (.inl h2))
      · exact .inr h2
    · exact .inl (List.mem_append.2 (.inr h1))⟩
/-- A block that was there and is not held is not held afterwards. -/
theorem Step.notin {S S' : List Nat} {w w' : World} (h : Step S S' w w') {g : Nat} (hg : g < w.heap.size) (hn : g ∉ S) : g ∉ S' := fun hm => by
  rcases h.fresh g hm with h1 | h1
  · exact hn h1
  · omega

section
variable {P : Program} {w : World}
theorem wpList_append_some {ops : Array Oper} {rest : List Oper} {o : Oper} {ac : Act} {Q : Exit → Act → World → Prop} (hgd : o.guard = none) (sl x : Operand) (t T : TypeId)
    (ho : o.op = .call { callee := .builtin .append, args := #[sl, x], argTypes := #[t, T] })
    (e : TypeId) (i : TypeInfo) (z : Value) (sz bytes : Nat) (ht : P.underlying t = some (.slice e)) (hi : P.info? e = some i) (hz : i.zero = some z)
    (hsize : i.size = sz) (hby : i.bytes = bytes) (hzs : z.cells.size = sz) {a : Option Addr} {n cap : Nat} {xs : List Value} (hv : ac.eval sl = .slice a n cap) (hr : Row w sz a n cap xs)
    {y : Value} {m : Nat} {news : List Value} (hx : ac.eval x = y) (hs : Src P w sz T y m news) (h63 : n + m ≤ maxLen) (hbytes : (n + m) * bytes ≤ 140737488355328) (hb0 : 0 < bytes) (hpos : 0 < n + m)
    (h : ∀ g off cap' w', Row w' sz (some ⟨g, off, none⟩) (n + m) cap' (xs ++ news) → Step (blks a) [g] w w' → wpList P ops Q rest (ac.put o.dst (.slice (some ⟨g, off, none⟩) (n + m) cap')) w') : wpList P ops Q (o :: rest) ac w :=
  wpList_append_row hgd sl x t T ho e i z sz bytes ht hi hz hsize hby hzs hv hr hx hs h63 hbytes hb0 fun a' cap' w' h2 h3 => by
    obtain ⟨g, off, e⟩ := h2.some_of_pos hpos
    subst e
    exact h g off cap' w' h2 h3
end
end Go.Proofs.YtfkjgkgflkhbnaaDoor
