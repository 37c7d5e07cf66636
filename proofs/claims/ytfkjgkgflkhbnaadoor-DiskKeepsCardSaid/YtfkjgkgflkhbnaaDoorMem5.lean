/-
  Rows: the empty one, a fresh one. No condition.
-/
import Derived.Test.YtfkjgkgflkhbnaaDoorMem4
import Derived.Test.YtfkjgkgflkhbnaaDoorRows
namespace Go.Proofs.YtfkjgkgflkhbnaaDoor
open Go.RowKit
set_option linter.unusedSimpArgs false
set_option linter.unusedVariables false

theorem Tryd.info_bytes : (Tryd.prog.info? 5).map (fun i => (i.zero, i.size, i.bytes)) = some (some (.int .u8 0), 1, 1) := by kernel_rfl
theorem Row.empty (w : World) (t : TypeId) (sz : Nat) : Row (w.alloc (.cells #[] t)) sz (some ⟨w.heap.size, 0, Option.none⟩) 0 0 [] :=
  ⟨by simp, Nat.le_refl _, Nat.zero_le _, (fun h => by cases h), fun ad e => by
    injection e with e
    subst e
    exact ⟨rfl, #[], (Blk.new w t #[]).cells, by simp, by simp⟩⟩
theorem row_fresh (w : World) (t : TypeId) (xs : List Value) (h : xs.length ≤ maxLen) : Row (w.alloc (.cells xs.toArray t)) 1 (some ⟨w.heap.size, 0, none⟩) xs.length xs.length xs :=
  ⟨by simp, Nat.le_refl _, h, (fun e => by cases e), fun ad e => by
    injection e with e
    subst e
    exact ⟨rfl, _, (Blk.new w t _).cells, by simp, by simp⟩⟩
theorem one_of_map {l : List UInt8} : ∀ u ∈ l.map bv, u.oneCell' = true := by
  intro u hu
  obtain ⟨x, _, rfl⟩ := List.mem_map.1 hu
  rfl
end Go.Proofs.YtfkjgkgflkhbnaaDoor
