/-
  EncodeAnswer. Condition: at most 2^21 outs and pairs, 2^40 numbers, ints, texts of at most 2^49 bytes.
-/
import Derived.Test.YtjfaplmojpldhaaZGD
import Derived.Deep.DeepCutAuto
import Derived.Deep.CutBlock
namespace Go.Proofs.Ytjfaplmojpldhaa
open Go.RowKit
set_option linter.unusedSimpArgs false
set_option linter.unusedVariables false
set_option maxRecDepth 100000

structure EaH (w V : World) (x : An) (m : List Om) (a : Option Addr) : Prop where
  rd : RdO V a m
  outs : m.map (·.o) = x.outs
  st : Step [] [] w V
  bd : AnB x
  nn : (numsA x).length ≤ 1099511627776
  ln : LenA x
theorem EaH.om {w V : World} {x : An} {m : List Om} {a : Option Addr} (h : EaH w V x m a) {k : Nat} {d : Om} (hd : m[k]? = some d) : OtB d.o ∧ d.o.pairs.length ≤ 2097152 ∧ Rd V 4 d.a d.o.pairs.length (prcs d.o.pairs) := by
  have hm := List.mem_of_getElem? hd
  have h1 : d.o ∈ x.outs := by rw [← h.outs]; exact List.mem_map.2 ⟨d, hm, rfl⟩
  exact ⟨h.bd.outs _ h1, h.ln.p _ h1, h.rd.prs _ hm⟩
theorem EaH.len {w V : World} {x : An} {m : List Om} {a : Option Addr} (h : EaH w V x m a) : m.length = x.outs.length ∧ m.length ≤ 2097152 := by
  have : m.length = x.outs.length := by rw [← h.outs, List.length_map]
  exact ⟨this, by have := h.ln.o; omega⟩
/-- Grow, of no slice. -/
def eright : Nat → Code → Code
  | 0, c => c
  | n + 1, .seq _ b => eright n b
  | _, c => c
section
variable {u0 u1 u2 u3 u4 u5 u6 u7 u8 u9 u10 u11 u12 u13 u14 u15 u16 u17 u18 u19 u20 u21 u22 u23 u24 u25 u26 u27 u28 u29 u30 u31 u32 u33 u34 u35 u36 u37 u38 u39 u40 u41 u42 u43 u44 u45 u46 u47 u48 u49 u50 u51 u52 u53 u54 u55 u56 u57 u58 u59 u60 u61 u62 u63 u64 u65 u66 u67 u68 u69 u70 u71 u72 u73 u74 u75 u76 u77 u78 u79 u80 u81 u82 u83 u84 u85 u86 u87 u88 u89 u90 u91 u92 u93 u94 u95 u96 u97 u98 u99 u100 u101 u102 u103 u104 u105 u106 u107 u108 u109 u110 u111 u112 u113 u114 u115 u116 u117 u118 u119 u120 u121 u122 u123 u124 u125 u126 u127 u128 u129 u130 u131 u132 u133 u134 u135 u136 u137 u138 u139 u140 u141 u142 u143 u144 u145 u146 u147 u148 u149 : Value}
end
end Go.Proofs.Ytjfaplmojpldhaa
