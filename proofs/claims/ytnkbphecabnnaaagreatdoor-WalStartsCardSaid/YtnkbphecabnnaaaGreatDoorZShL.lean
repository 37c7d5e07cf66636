/-
  shot.Load.
-/
import Derived.Test.YtnkbphecabnnaaaGreatDoorZGK
import Derived.Test.YtnkbphecabnnaaaGreatDoorZShS
namespace Go.Proofs.YtnkbphecabnnaaaGreatDoor
open Go.RowKit Go.Maps
set_option linter.unusedSimpArgs false
set_option linter.unusedVariables false
set_option maxRecDepth 100000

theorem res_row3 {P : Program} {fn : Func} {p u v : Tmp} {T T' : TypeId} {cs : Array Value} {w : World} {b : Nat} (h : fn.results = #[.cell p T, .tmp u, .tmp v]) (tmps : Array Value) (hp : tmps.getD p undef = .pointer (some ⟨b, 0, none⟩)) (hT : StructOf P T cs.size) (hb : Blk w b T' cs) :
    (results fn tmps).run P w = .ok (.tuple #[.agg cs, tmps.getD u undef, tmps.getD v undef]) w := by
  obtain ⟨fs, hf⟩ := hT.2
  have := run_loadVar_row (P := P) w b T' T cs (0, 0) (.struct fs) hb hf rfl hT.1
  simp only [Array.getD_eq_getD_getElem?] at hp
  simp only [results, h]
  simp [Sem.run_bind, Result.andThen, hp, asAddr, this]
theorem dkdown_any (w : World) (S : List Nat) (d : Nat) (s : St) (h : Dk w S d s) : Calls Tryz.prog 24 #[.pointer (some ⟨d, 0, none⟩)] w fun e w' => e = .returned (.bool s.off) ∧ w = w' := by
  obtain ⟨m, L, h1, _⟩ := h
  exact down_any w d m s.room s.fuse s.off h1.blk
end Go.Proofs.YtnkbphecabnnaaaGreatDoor
