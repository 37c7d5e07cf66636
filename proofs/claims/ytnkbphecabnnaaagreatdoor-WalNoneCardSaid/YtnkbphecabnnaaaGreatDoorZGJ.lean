/-
  Chapter 6: the law's awake; an event that comes in, opened. Condition: utf8's tables as Go lays them.
-/
import Derived.Test.YtnkbphecabnnaaaGreatDoorZGM
import Derived.Test.YtnkbphecabnnaaaGreatDoorZGI
namespace Go.Proofs.YtnkbphecabnnaaaGreatDoor
open Go.RowKit Go.Maps Go.ChangeShapes Go.WideShapes Go.ChangeAt
set_option linter.unusedSimpArgs false
set_option linter.unusedVariables false
set_option maxRecDepth 100000


/-- An event. -/
structure OpE where
  k : Int
  n : List UInt8
  s : List UInt8
  m : Int
  ks : List Int
  ka : Option Addr
  kc : Nat
structure OpB (w : World) (o : OpE) : Prop where
  n : o.n.length ≤ 140737488351232
  s : o.s.length ≤ 140737488351232
  m : -9223372036854775808 ≤ o.m ∧ o.m < 9223372036854775808
  ks : o.ks.length ≤ maxLen
  rd : Rd w 1 o.ka o.ks.length (o.ks.map (Value.int .i64))
end Go.Proofs.YtnkbphecabnnaaaGreatDoor
