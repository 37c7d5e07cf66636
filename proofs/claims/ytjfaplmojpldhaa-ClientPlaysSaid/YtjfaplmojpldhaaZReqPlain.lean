/-
  Requests as plain Lean: flat forms, acts, what belongs to a kind. No condition.
-/
import Derived.Test.YtjfaplmojpldhaaZGB
namespace Go.Proofs.Ytjfaplmojpldhaa
open Go.RowKit
set_option linter.unusedSimpArgs false
set_option linter.unusedVariables false

structure Da where
  kind : Int
  fr : List UInt8
  to_ : List UInt8
  key : List UInt8
  val : List UInt8
  rev : Int
  most : Int
  deriving DecidableEq
structure Cp where
  key : List UInt8
  what : Int
  rev : Int
  val : List UInt8
  deriving DecidableEq
structure Cm where
  client : Int
  seq : Int
  token : List UInt8
  kind : Int
  name : List UInt8
  other : List UInt8
  word : List UInt8
  salt : List UInt8
  bytes : Int
  keys : Int
  gf : List UInt8
  gt : List UInt8
  gr : Bool
  gw : Bool
  rev : Int
  ifs : List Cp
  thens : List Da
  elses : List Da
  deriving DecidableEq
def cmZ : Cm := ⟨0, 0, [], 0, [], [], [], [], 0, 0, [], [], false, false, 0, [], [], []⟩
/-- An act with just the fields of its kind. -/
def actL (d : Da) : Da :=
  if d.kind = 1 then ⟨1, d.fr, d.to_, [], [], d.rev, d.most⟩
  else if d.kind = 2 then ⟨2, [], [], d.key, d.val, 0, 0⟩
  else if d.kind = 3 then ⟨3, d.fr, d.to_, [], [], 0, 0⟩
  else ⟨d.kind, [], [], [], [], 0, 0⟩
theorem actL_twice (d : Da) : actL (actL d) = actL d := by
  by_cases h1 : d.kind = 1
  · simp [actL, h1]
  · by_cases h2 : d.kind = 2
    · simp [actL, h2]
    · by_cases h3 : d.kind = 3
      · simp [actL, h3]
      · simp [actL, h1, h2, h3]
def isK (k : Int) : Bool := decide (1 ≤ k ∧ k ≤ 14)
def hasN (k : Int) : Bool := decide (k = 1) || decide (4 ≤ k)
def hasO (k : Int) : Bool := decide (k = 6) || decide (k = 9) || decide (k = 13) || decide (k = 14)
def hasW (k : Int) : Bool := decide (k = 1) || decide (k = 6) || decide (k = 7)
def hasS (k : Int) : Bool := decide (k = 6) || decide (k = 7)
def hasQ (k : Int) : Bool := decide (k = 4) || decide (k = 5)
def hasG (k : Int) : Bool := decide (k = 11)
def hasP (k : Int) : Bool := decide (k = 11) || decide (k = 12)
def hasR (k : Int) : Bool := decide (k = 3)
def hasT (k : Int) : Bool := decide (k = 2)
/-- Just the fields of a kind. -/
def onlyC (x : Cm) : Cm :=
  ⟨x.client, x.seq, x.token, x.kind, if hasN x.kind then x.name else [], if hasO x.kind then x.other else [], if hasW x.kind then x.word else [], if hasS x.kind then x.salt else [],
   if hasQ x.kind then x.bytes else 0, if hasQ x.kind then x.keys else 0, if hasP x.kind then x.gf else [], if hasP x.kind then x.gt else [], if hasG x.kind then x.gr else false, if hasG x.kind then x.gw else false,
   if hasR x.kind then x.rev else 0, if hasT x.kind then x.ifs else [], if hasT x.kind then x.thens.map actL else [], if hasT x.kind then x.elses.map actL else []⟩
def cleanC (x : Cm) : Cm := if isK x.kind then onlyC x else cmZ
theorem isK_cases {k : Int} (h : isK k = true) : k = 1 ∨ k = 2 ∨ k = 3 ∨ (4 ≤ k ∧ k ≤ 14) := by simp [isK] at h; omega
theorem adm_cases {k : Int} (h : 4 ≤ k ∧ k ≤ 14) : k = 4 ∨ k = 5 ∨ k = 6 ∨ k = 7 ∨ k = 8 ∨ k = 9 ∨ k = 10 ∨ k = 11 ∨ k = 12 ∨ k = 13 ∨ k = 14 := by omega
theorem clean_kind {x : Cm} (h : isK x.kind = true) : (cleanC x).kind = x.kind := by simp [cleanC, h, onlyC]
theorem clean_twice {x : Cm} (h : isK x.kind = true) : cleanC (cleanC x) = cleanC x := by
  have e : ∀ y : Cm, isK y.kind = true → cleanC y = onlyC y := fun y hy => by simp [cleanC, hy]
  have hk : (onlyC x).kind = x.kind := rfl
  have hl : ∀ l : List Da, List.map actL (List.map actL l) = List.map actL l := fun l => by
    rw [List.map_map]
    exact List.map_congr_left fun d _ => actL_twice d
  rw [e x h, e _ (by rw [hk]; exact h)]
  unfold onlyC
  simp only [Cm.mk.injEq, true_and]
  refine ⟨?_, ?_, ?_, ?_, ?_, ?_, ?_, ?_, ?_, ?_, ?_, ?_, ?_, ?_⟩
  · cases hasN x.kind <;> rfl
  · cases hasO x.kind <;> rfl
  · cases hasW x.kind <;> rfl
  · cases hasS x.kind <;> rfl
  · cases hasQ x.kind <;> rfl
  · cases hasQ x.kind <;> rfl
  · cases hasP x.kind <;> rfl
  · cases hasP x.kind <;> rfl
  · cases hasG x.kind <;> rfl
  · cases hasG x.kind <;> rfl
  · cases hasR x.kind <;> rfl
  · cases hasT x.kind <;> rfl
  · cases hasT x.kind
    · rfl
    · exact hl _
  · cases hasT x.kind
    · rfl
    · exact hl _
end Go.Proofs.Ytjfaplmojpldhaa
