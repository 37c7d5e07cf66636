/-
  Chapter 6: the law's awake; an event that comes in, opened. Condition: utf8's tables as Go lays them.
-/
import Derived.Test.YtnkbphecabnnaaaGreatDoorZGM
import Derived.Test.YtnkbphecabnnaaaGreatDoorZGI
namespace Go.Proofs.YtnkbphecabnnaaaGreatDoor
open Go.RowKit Go.Maps Go.ChangeShapes Go.WideShapes Go.ChangeAt
set_option linter.unusedSimpArgs false
set_option linter.unusedVariables false
set_option maxRecDepth 100000


/-- An event. -/
structure OpE where
  k : Int
  n : List UInt8
  s : List UInt8
  m : Int
  ks : List Int
  ka : Option Addr
  kc : Nat
structure OpB (w : World) (o : OpE) : Prop where
  n : o.n.length ≤ 140737488351232
  s : o.s.length ≤ 140737488351232
  m : -9223372036854775808 ≤ o.m ∧ o.m < 9223372036854775808
  ks : o.ks.length ≤ maxLen
  rd : Rd w 1 o.ka o.ks.length (o.ks.map (Value.int .i64))
theorem op_ints {w : World} {cs : List Value} (h : Op Tryz.prog w 42 cs) : ∃ (l : List Int) (a : Option Addr) (cap : Nat), cs = [.slice a l.length cap] ∧ l.length ≤ cap ∧ cap ≤ maxLen ∧ Rd w 1 a l.length (l.map (Value.int .i64)) := by
  obtain ⟨a, n, cap, e, h1, h2, h3, h4⟩ := h.slice Tryz.underlying42 (sz := 1) (by kernel_rfl)
  obtain ⟨l, hl, hr, hq⟩ := rd_of (w := w) (fun x : Int => [Value.int .i64 x]) 1 (by omega) (fun _ => rfl) (a := a) (n := n) (fun _ => True) (fun i hi => by
    obtain ⟨cs', hlen, ⟨ad, hx, hc⟩, hop⟩ := h4 i hi
    obtain ⟨x, e2, _⟩ := hop.int Tryz.underlying3
    subst e2
    exact ⟨x, ⟨ad, hx, hc⟩, trivial⟩)
  subst hl
  have hm : (l.flatMap fun x : Int => [Value.int .i64 x]) = l.map (Value.int .i64) := by
    clear hr h4 e h1 hq
    induction l with
    | nil => rfl
    | cons x r ih => rw [List.flatMap_cons, ih]; rfl
  rw [hm] at hr
  exact ⟨l, a, cap, e, h1, h2, hr⟩
theorem okWide_aggD {P : Program} {w : World} {r : Reach} {base : Nat} {t : TypeId} {fs : Array Field} {v : Value} (ht : P.underlying t = some (.struct fs)) (h : Value.okWide P w r base t v) : ∃ cs, v = .agg cs ∧ cs.size = P.cellsOf t := by
  simp only [Value.okWide, ht] at h
  obtain ⟨cs, h1, h2, _⟩ := h
  exact ⟨cs, h1, h2⟩
end Go.Proofs.YtnkbphecabnnaaaGreatDoor
