/-
  The reference's Same, of two flat forms that are alike. Condition: at most 2^40 compares and acts.
-/
import Derived.Test.YtjfaplmojpldhaaZReqD
import Derived.Deep.DeepCutAuto
import Derived.Deep.CutBlock
namespace Go.Proofs.Ytjfaplmojpldhaa
open Go.RowKit
set_option linter.unusedSimpArgs false
set_option linter.unusedVariables false
set_option maxRecDepth 100000

theorem blk2c (w : World) (t0 t1 : TypeId) (c0 c1 : Array Value) : Blk ((w.alloc (.cells c0 t0)).alloc (.cells c1 t1)) w.heap.size t0 c0 ∧ Blk ((w.alloc (.cells c0 t0)).alloc (.cells c1 t1)) (w.heap.size + 1) t1 c1 := by
  have s1 : ∀ o, (w.alloc o).heap.size = w.heap.size + 1 := fun o => by simp
  refine ⟨(Blk.new w t0 c0).alloc _, ?_⟩
  have := Blk.new (w.alloc (.cells c0 t0)) t1 c1
  rwa [s1] at this
end Go.Proofs.Ytjfaplmojpldhaa
