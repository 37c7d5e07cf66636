/-
  A message's Flat through the interface, and whether it is right. Condition: at most 2^40 entries.
-/
import Derived.Test.YtihklmomipidaaaMsgC
namespace Go.Proofs.Ytihklmomipidaaa
open Go.RowKit
set_option linter.unusedSimpArgs false
set_option linter.unusedVariables false
set_option maxRecDepth 100000

theorem RawPost.none {x : Rw} {w w' : World} {e : Ending} (he : (cleanL x).es = []) (h : e = .returned (rwV (cleanL x) (.slice none 0 0)) ∧ Step [] [] w w') : RawPost (cleanL x) w e w' :=
  ⟨Option.none, 0, by rw [he]; exact h.1, by rw [he]; exact (Row.none w' 3).rd, h.2⟩
theorem ta11 (u : Value) (W : World) : (Instr.typeAssert (.iface 57 u) 27 57 true).run Try.prog W = .ok (.tuple #[u, .bool true]) W := by kernel_rfl
theorem ta12 (u : Value) (W : World) : (Instr.typeAssert (.iface 57 u) 27 55 true).run Try.prog W = .ok (.tuple #[.agg #[.int .i64 0, .int .i64 0, .bool false], .bool false]) W := by kernel_rfl
theorem ta13 (u : Value) (W : World) : (Instr.typeAssert (.iface 57 u) 27 47 true).run Try.prog W = .ok (.tuple #[.agg #[.int .i64 0, .int .i64 0, .int .i64 0, .int .i64 0, .int .i64 0, .int .i64 0, .slice none 0 0], .bool false]) W := by kernel_rfl
theorem ta14 (u : Value) (W : World) : (Instr.typeAssert (.iface 57 u) 27 62 true).run Try.prog W = .ok (.tuple #[.agg #[.int .i64 0, .int .i64 0, .int .i64 0, .int .i64 0, .bool false], .bool false]) W := by kernel_rfl
theorem ta15 (u : Value) (W : World) : (Instr.typeAssert (.iface 57 u) 27 51 true).run Try.prog W = .ok (.tuple #[.agg #[.int .i64 0, .int .i64 0, .int .i64 0, .int .i64 0, .int .i64 0, .string ⟨#[]⟩], .bool false]) W := by kernel_rfl
theorem ta21 (u : Value) (W : World) : (Instr.typeAssert (.iface 55 u) 27 57 true).run Try.prog W = .ok (.tuple #[.agg #[.int .i64 0, .int .i64 0, .int .i64 0, .int .i64 0], .bool false]) W := by kernel_rfl
theorem ta22 (u : Value) (W : World) : (Instr.typeAssert (.iface 55 u) 27 55 true).run Try.prog W = .ok (.tuple #[u, .bool true]) W := by kernel_rfl
theorem ta23 (u : Value) (W : World) : (Instr.typeAssert (.iface 55 u) 27 47 true).run Try.prog W = .ok (.tuple #[.agg #[.int .i64 0, .int .i64 0, .int .i64 0, .int .i64 0, .int .i64 0, .int .i64 0, .slice none 0 0], .bool false]) W := by kernel_rfl
theorem ta24 (u : Value) (W : World) : (Instr.typeAssert (.iface 55 u) 27 62 true).run Try.prog W = .ok (.tuple #[.agg #[.int .i64 0, .int .i64 0, .int .i64 0, .int .i64 0, .bool false], .bool false]) W := by kernel_rfl
theorem ta25 (u : Value) (W : World) : (Instr.typeAssert (.iface 55 u) 27 51 true).run Try.prog W = .ok (.tuple #[.agg #[.int .i64 0, .int .i64 0, .int .i64 0, .int .i64 0, .int .i64 0, .string ⟨#[]⟩], .bool false]) W := by kernel_rfl
theorem ta31 (u : Value) (W : World) : (Instr.typeAssert (.iface 47 u) 27 57 true).run Try.prog W = .ok (.tuple #[.agg #[.int .i64 0, .int .i64 0, .int .i64 0, .int .i64 0], .bool false]) W := by kernel_rfl
theorem ta32 (u : Value) (W : World) : (Instr.typeAssert (.iface 47 u) 27 55 true).run Try.prog W = .ok (.tuple #[.agg #[.int .i64 0, .int .i64 0, .bool false], .bool false]) W := by kernel_rfl
theorem ta33 (u : Value) (W : World) : (Instr.typeAssert (.iface 47 u) 27 47 true).run Try.prog W = .ok (.tuple #[u, .bool true]) W := by kernel_rfl
theorem ta34 (u : Value) (W : World) : (Instr.typeAssert (.iface 47 u) 27 62 true).run Try.prog W = .ok (.tuple #[.agg #[.int .i64 0, .int .i64 0, .int .i64 0, .int .i64 0, .bool false], .bool false]) W := by kernel_rfl
theorem ta35 (u : Value) (W : World) : (Instr.typeAssert (.iface 47 u) 27 51 true).run Try.prog W = .ok (.tuple #[.agg #[.int .i64 0, .int .i64 0, .int .i64 0, .int .i64 0, .int .i64 0, .string ⟨#[]⟩], .bool false]) W := by kernel_rfl
theorem ta41 (u : Value) (W : World) : (Instr.typeAssert (.iface 62 u) 27 57 true).run Try.prog W = .ok (.tuple #[.agg #[.int .i64 0, .int .i64 0, .int .i64 0, .int .i64 0], .bool false]) W := by kernel_rfl
theorem ta42 (u : Value) (W : World) : (Instr.typeAssert (.iface 62 u) 27 55 true).run Try.prog W = .ok (.tuple #[.agg #[.int .i64 0, .int .i64 0, .bool false], .bool false]) W := by kernel_rfl
theorem ta43 (u : Value) (W : World) : (Instr.typeAssert (.iface 62 u) 27 47 true).run Try.prog W = .ok (.tuple #[.agg #[.int .i64 0, .int .i64 0, .int .i64 0, .int .i64 0, .int .i64 0, .int .i64 0, .slice none 0 0], .bool false]) W := by kernel_rfl
theorem ta44 (u : Value) (W : World) : (Instr.typeAssert (.iface 62 u) 27 62 true).run Try.prog W = .ok (.tuple #[u, .bool true]) W := by kernel_rfl
theorem ta45 (u : Value) (W : World) : (Instr.typeAssert (.iface 62 u) 27 51 true).run Try.prog W = .ok (.tuple #[.agg #[.int .i64 0, .int .i64 0, .int .i64 0, .int .i64 0, .int .i64 0, .string ⟨#[]⟩], .bool false]) W := by kernel_rfl
theorem ta51 (u : Value) (W : World) : (Instr.typeAssert (.iface 51 u) 27 57 true).run Try.prog W = .ok (.tuple #[.agg #[.int .i64 0, .int .i64 0, .int .i64 0, .int .i64 0], .bool false]) W := by kernel_rfl
theorem ta52 (u : Value) (W : World) : (Instr.typeAssert (.iface 51 u) 27 55 true).run Try.prog W = .ok (.tuple #[.agg #[.int .i64 0, .int .i64 0, .bool false], .bool false]) W := by kernel_rfl
theorem ta53 (u : Value) (W : World) : (Instr.typeAssert (.iface 51 u) 27 47 true).run Try.prog W = .ok (.tuple #[.agg #[.int .i64 0, .int .i64 0, .int .i64 0, .int .i64 0, .int .i64 0, .int .i64 0, .slice none 0 0], .bool false]) W := by kernel_rfl
theorem ta54 (u : Value) (W : World) : (Instr.typeAssert (.iface 51 u) 27 62 true).run Try.prog W = .ok (.tuple #[.agg #[.int .i64 0, .int .i64 0, .int .i64 0, .int .i64 0, .bool false], .bool false]) W := by kernel_rfl
theorem ta55 (u : Value) (W : World) : (Instr.typeAssert (.iface 51 u) 27 51 true).run Try.prog W = .ok (.tuple #[u, .bool true]) W := by kernel_rfl
theorem mt1 (n : Nat) (u : Value) (W : World) : (method (n + 1) 57 u "Flat").run Try.prog W = .ok (67, u) W := by kernel_rfl
theorem en1 (u : Value) (W : World) : (callFunc 67 #[u]).run Try.prog W = .ok (.enter 67 #[u]) W := by kernel_rfl
theorem na1 (n : Nat) (u : Value) (W : World) : (nilAhead (n + 1) 57 u "Flat").run Try.prog W = .ok (some false) W := by kernel_rfl
theorem mt2 (n : Nat) (u : Value) (W : World) : (method (n + 1) 55 u "Flat").run Try.prog W = .ok (66, u) W := by kernel_rfl
theorem en2 (u : Value) (W : World) : (callFunc 66 #[u]).run Try.prog W = .ok (.enter 66 #[u]) W := by kernel_rfl
theorem na2 (n : Nat) (u : Value) (W : World) : (nilAhead (n + 1) 55 u "Flat").run Try.prog W = .ok (some false) W := by kernel_rfl
theorem mt3 (n : Nat) (u : Value) (W : World) : (method (n + 1) 47 u "Flat").run Try.prog W = .ok (21, u) W := by kernel_rfl
theorem en3 (u : Value) (W : World) : (callFunc 21 #[u]).run Try.prog W = .ok (.enter 21 #[u]) W := by kernel_rfl
theorem na3 (n : Nat) (u : Value) (W : World) : (nilAhead (n + 1) 47 u "Flat").run Try.prog W = .ok (some false) W := by kernel_rfl
theorem mt4 (n : Nat) (u : Value) (W : World) : (method (n + 1) 62 u "Flat").run Try.prog W = .ok (68, u) W := by kernel_rfl
theorem en4 (u : Value) (W : World) : (callFunc 68 #[u]).run Try.prog W = .ok (.enter 68 #[u]) W := by kernel_rfl
theorem na4 (n : Nat) (u : Value) (W : World) : (nilAhead (n + 1) 62 u "Flat").run Try.prog W = .ok (some false) W := by kernel_rfl
theorem mt5 (n : Nat) (u : Value) (W : World) : (method (n + 1) 51 u "Flat").run Try.prog W = .ok (22, u) W := by kernel_rfl
theorem en5 (u : Value) (W : World) : (callFunc 22 #[u]).run Try.prog W = .ok (.enter 22 #[u]) W := by kernel_rfl
theorem na5 (n : Nat) (u : Value) (W : World) : (nilAhead (n + 1) 51 u "Flat").run Try.prog W = .ok (some false) W := by kernel_rfl
theorem ta01 (W : World) : (Instr.typeAssert .nilIface 27 57 true).run Try.prog W = .ok (.tuple #[.agg #[.int .i64 0, .int .i64 0, .int .i64 0, .int .i64 0], .bool false]) W := by kernel_rfl
theorem ta02 (W : World) : (Instr.typeAssert .nilIface 27 55 true).run Try.prog W = .ok (.tuple #[.agg #[.int .i64 0, .int .i64 0, .bool false], .bool false]) W := by kernel_rfl
theorem ta03 (W : World) : (Instr.typeAssert .nilIface 27 47 true).run Try.prog W = .ok (.tuple #[.agg #[.int .i64 0, .int .i64 0, .int .i64 0, .int .i64 0, .int .i64 0, .int .i64 0, .slice none 0 0], .bool false]) W := by kernel_rfl
theorem ta04 (W : World) : (Instr.typeAssert .nilIface 27 62 true).run Try.prog W = .ok (.tuple #[.agg #[.int .i64 0, .int .i64 0, .int .i64 0, .int .i64 0, .bool false], .bool false]) W := by kernel_rfl
theorem ta05 (W : World) : (Instr.typeAssert .nilIface 27 51 true).run Try.prog W = .ok (.tuple #[.agg #[.int .i64 0, .int .i64 0, .int .i64 0, .int .i64 0, .int .i64 0, .string ⟨#[]⟩], .bool false]) W := by kernel_rfl

set_option maxHeartbeats 1000000 in
theorem msgRight_nil (w : World) : Calls Try.prog 14 #[.nilIface] w fun e w' => e = .returned (.bool false) ∧ Step [] [] w w' := by
  have a1 := ta01
  have a2 := ta02
  have a3 := ta03
  have a4 := ta04
  have a5 := ta05
  go_enter Try.func14, Try.ntmps14
  go_wp2_with fail
  exact bodyPost_ret (results_tmp rfl _ _ _) rfl ⟨rfl, Step.refl _ _⟩
theorem IsMsg.open_ {w : World} {x : Rw} {v : Value} (h : IsMsg w x v) : ∃ a cap, Rd w 3 a x.es.length (entcs x.es) ∧ ((x.kind = 1 ∧ v = .iface 57 (.agg #[.int .i64 x.src, .int .i64 x.term, .int .i64 x.index, .int .i64 x.last])) ∨ (x.kind = 2 ∧ v = .iface 55 (.agg #[.int .i64 x.src, .int .i64 x.term, .bool x.yes])) ∨ (x.kind = 3 ∧ v = .iface 47 (.agg #[.int .i64 x.src, .int .i64 x.term, .int .i64 x.index, .int .i64 x.last, .int .i64 x.commit, .int .i64 x.round, .slice a x.es.length cap])) ∨ (x.kind = 4 ∧ v = .iface 62 (.agg #[.int .i64 x.src, .int .i64 x.term, .int .i64 x.index, .int .i64 x.round, .bool x.yes])) ∨ (x.kind = 5 ∧ v = .iface 51 (.agg #[.int .i64 x.src, .int .i64 x.term, .int .i64 x.index, .int .i64 x.last, .int .i64 x.round, Str x.data]))) := by
  obtain ⟨a, cap, hv, hr⟩ := h.at_
  refine ⟨a, cap, hr, ?_⟩
  rcases kind_cases h.kind with hk | hk | hk | hk | hk <;> simp [hv, msgV, hk]
theorem IsMsg.noes {w : World} {x : Rw} {v : Value} (h : IsMsg w x v) (hk : x.kind ≠ 3) : x.es = [] := by
  have hc := congrArg Rw.es h.clean
  rcases kind_cases h.kind with h1 | h1 | h1 | h1 | h1
  · simp [cleanL, h1] at hc; exact hc
  · simp [cleanL, h1] at hc; exact hc
  · exact absurd h1 hk
  · simp [cleanL, h1] at hc; exact hc
  · simp [cleanL, h1] at hc; exact hc
/-- Flat, by the value's own method. -/
structure FlatBy (w : World) (x : Rw) (T : TypeId) (u : Value) (F : FuncId) : Prop where
  method : ∀ (n : Nat) (W : World), (method (n + 1) T u "Flat").run Try.prog W = .ok (F, u) W
  ahead : ∀ (n : Nat) (W : World), (nilAhead (n + 1) T u "Flat").run Try.prog W = .ok (some false) W
  enter : ∀ (W : World), (callFunc F #[u]).run Try.prog W = .ok (.enter F #[u]) W
  call : ∀ W, Step [] [] w W → Calls Try.prog F #[u] W (RawPost x W)
theorem IsMsg.flat {w : World} {x : Rw} {v : Value} (h : IsMsg w x v) : ∃ T u F, v = .iface T u ∧ FlatBy w x T u F := by
  obtain ⟨a, cap, hr, h5⟩ := h.open_
  have hc := h.clean
  have hl := h.len
  have hn := h.noes
  rcases h5 with ⟨hk, rfl⟩ | ⟨hk, rfl⟩ | ⟨hk, rfl⟩ | ⟨hk, rfl⟩ | ⟨hk, rfl⟩
  · exact ⟨_, _, 67, rfl, fun n W => mt1 n _ W, fun n W => na1 n _ W, fun W => en1 _ W, fun W _ => by have := (flat1_any x W hk).mono fun e w' h => RawPost.none (by rw [hc]; exact hn (by omega)) h; rwa [hc] at this⟩
  · exact ⟨_, _, 66, rfl, fun n W => mt2 n _ W, fun n W => na2 n _ W, fun W => en2 _ W, fun W _ => by have := (flat2_any x W hk).mono fun e w' h => RawPost.none (by rw [hc]; exact hn (by omega)) h; rwa [hc] at this⟩
  · exact ⟨_, _, 21, rfl, fun n W => mt3 n _ W, fun n W => na3 n _ W, fun W => en3 _ W, fun W k => by have := flat3_any x a cap W hk (hr.step0 k) hl; rwa [hc] at this⟩
  · exact ⟨_, _, 68, rfl, fun n W => mt4 n _ W, fun n W => na4 n _ W, fun W => en4 _ W, fun W _ => by have := (flat4_any x W hk).mono fun e w' h => RawPost.none (by rw [hc]; exact hn (by omega)) h; rwa [hc] at this⟩
  · exact ⟨_, _, 22, rfl, fun n W => mt5 n _ W, fun n W => na5 n _ W, fun W => en5 _ W, fun W _ => by have := (flat5_any x W hk).mono fun e w' h => RawPost.none (by rw [hc]; exact hn (by omega)) h; rwa [hc] at this⟩

set_option maxHeartbeats 1000000 in
theorem msgRight1_any (x : Rw) (a : Option Addr) (cap : Nat) (w : World) (u : Value) (hu : u = .agg #[.int .i64 x.src, .int .i64 x.term, .int .i64 x.index, .int .i64 x.last]) (hf : Calls Try.prog 67 #[u] w (RawPost x w)) (hl : x.es.length ≤ 4398046511104) (hd : x.data.length ≤ 1099511627776) : Calls Try.prog 14 #[.iface 57 u] w fun e w' => e = .returned (.bool (rightR x)) ∧ Step [] [] w w' := by
  clear hu
  have HF := Lib.hid hf
  clear hf
  have a1 := ta11 u
  have a2 := ta12 u
  have a3 := ta13 u
  have a4 := ta14 u
  have a5 := ta15 u
  have m1 := fun n => mt1 n u
  have m2 := fun n => na1 n u
  go_enter Try.func14, Try.ntmps14
  go_wp2_with fail
  refine HF.out.mono ?_
  rintro e w1 ⟨aa, cc, rfl, r1, k1⟩
  have H1 := Lib.hid (And.intro r1 k1)
  clear r1 k1 a1 a2 a3 a4 a5 m1 m2
  go_wp2_with fail
  refine (right_any x _ _ w1 H1.out.1 hl hd).mono ?_
  rintro e w2 ⟨rfl, k2⟩
  have H2 := Lib.hid (H1.out.2.trans k2)
  clear k2
  go_wp2_with fail
  exact bodyPost_ret (results_tmp rfl _ _ _) rfl ⟨rfl, H2.out⟩

set_option maxHeartbeats 1000000 in
theorem msgRight2_any (x : Rw) (a : Option Addr) (cap : Nat) (w : World) (u : Value) (hu : u = .agg #[.int .i64 x.src, .int .i64 x.term, .bool x.yes]) (hf : Calls Try.prog 66 #[u] w (RawPost x w)) (hl : x.es.length ≤ 4398046511104) (hd : x.data.length ≤ 1099511627776) : Calls Try.prog 14 #[.iface 55 u] w fun e w' => e = .returned (.bool (rightR x)) ∧ Step [] [] w w' := by
  clear hu
  have HF := Lib.hid hf
  clear hf
  have a1 := ta21 u
  have a2 := ta22 u
  have a3 := ta23 u
  have a4 := ta24 u
  have a5 := ta25 u
  have m1 := fun n => mt2 n u
  have m2 := fun n => na2 n u
  go_enter Try.func14, Try.ntmps14
  go_wp2_with fail
  refine HF.out.mono ?_
  rintro e w1 ⟨aa, cc, rfl, r1, k1⟩
  have H1 := Lib.hid (And.intro r1 k1)
  clear r1 k1 a1 a2 a3 a4 a5 m1 m2
  go_wp2_with fail
  refine (right_any x _ _ w1 H1.out.1 hl hd).mono ?_
  rintro e w2 ⟨rfl, k2⟩
  have H2 := Lib.hid (H1.out.2.trans k2)
  clear k2
  go_wp2_with fail
  exact bodyPost_ret (results_tmp rfl _ _ _) rfl ⟨rfl, H2.out⟩

set_option maxHeartbeats 1000000 in
theorem msgRight3_any (x : Rw) (a : Option Addr) (cap : Nat) (w : World) (u : Value) (hu : u = .agg #[.int .i64 x.src, .int .i64 x.term, .int .i64 x.index, .int .i64 x.last, .int .i64 x.commit, .int .i64 x.round, .slice a x.es.length cap]) (hf : Calls Try.prog 21 #[u] w (RawPost x w)) (hl : x.es.length ≤ 4398046511104) (hd : x.data.length ≤ 1099511627776) : Calls Try.prog 14 #[.iface 47 u] w fun e w' => e = .returned (.bool (rightR x)) ∧ Step [] [] w w' := by
  clear hu
  have HF := Lib.hid hf
  clear hf
  have a1 := ta31 u
  have a2 := ta32 u
  have a3 := ta33 u
  have a4 := ta34 u
  have a5 := ta35 u
  have m1 := fun n => mt3 n u
  have m2 := fun n => na3 n u
  go_enter Try.func14, Try.ntmps14
  go_wp2_with fail
  refine HF.out.mono ?_
  rintro e w1 ⟨aa, cc, rfl, r1, k1⟩
  have H1 := Lib.hid (And.intro r1 k1)
  clear r1 k1 a1 a2 a3 a4 a5 m1 m2
  go_wp2_with fail
  refine (right_any x _ _ w1 H1.out.1 hl hd).mono ?_
  rintro e w2 ⟨rfl, k2⟩
  have H2 := Lib.hid (H1.out.2.trans k2)
  clear k2
  go_wp2_with fail
  exact bodyPost_ret (results_tmp rfl _ _ _) rfl ⟨rfl, H2.out⟩

set_option maxHeartbeats 1000000 in
theorem msgRight4_any (x : Rw) (a : Option Addr) (cap : Nat) (w : World) (u : Value) (hu : u = .agg #[.int .i64 x.src, .int .i64 x.term, .int .i64 x.index, .int .i64 x.round, .bool x.yes]) (hf : Calls Try.prog 68 #[u] w (RawPost x w)) (hl : x.es.length ≤ 4398046511104) (hd : x.data.length ≤ 1099511627776) : Calls Try.prog 14 #[.iface 62 u] w fun e w' => e = .returned (.bool (rightR x)) ∧ Step [] [] w w' := by
  clear hu
  have HF := Lib.hid hf
  clear hf
  have a1 := ta41 u
  have a2 := ta42 u
  have a3 := ta43 u
  have a4 := ta44 u
  have a5 := ta45 u
  have m1 := fun n => mt4 n u
  have m2 := fun n => na4 n u
  go_enter Try.func14, Try.ntmps14
  go_wp2_with fail
  refine HF.out.mono ?_
  rintro e w1 ⟨aa, cc, rfl, r1, k1⟩
  have H1 := Lib.hid (And.intro r1 k1)
  clear r1 k1 a1 a2 a3 a4 a5 m1 m2
  go_wp2_with fail
  refine (right_any x _ _ w1 H1.out.1 hl hd).mono ?_
  rintro e w2 ⟨rfl, k2⟩
  have H2 := Lib.hid (H1.out.2.trans k2)
  clear k2
  go_wp2_with fail
  exact bodyPost_ret (results_tmp rfl _ _ _) rfl ⟨rfl, H2.out⟩

set_option maxHeartbeats 1000000 in
theorem msgRight5_any (x : Rw) (a : Option Addr) (cap : Nat) (w : World) (u : Value) (hu : u = .agg #[.int .i64 x.src, .int .i64 x.term, .int .i64 x.index, .int .i64 x.last, .int .i64 x.round, Str x.data]) (hf : Calls Try.prog 22 #[u] w (RawPost x w)) (hl : x.es.length ≤ 4398046511104) (hd : x.data.length ≤ 1099511627776) : Calls Try.prog 14 #[.iface 51 u] w fun e w' => e = .returned (.bool (rightR x)) ∧ Step [] [] w w' := by
  clear hu
  have HF := Lib.hid hf
  clear hf
  have a1 := ta51 u
  have a2 := ta52 u
  have a3 := ta53 u
  have a4 := ta54 u
  have a5 := ta55 u
  have m1 := fun n => mt5 n u
  have m2 := fun n => na5 n u
  go_enter Try.func14, Try.ntmps14
  go_wp2_with fail
  refine HF.out.mono ?_
  rintro e w1 ⟨aa, cc, rfl, r1, k1⟩
  have H1 := Lib.hid (And.intro r1 k1)
  clear r1 k1 a1 a2 a3 a4 a5 m1 m2
  go_wp2_with fail
  refine (right_any x _ _ w1 H1.out.1 hl hd).mono ?_
  rintro e w2 ⟨rfl, k2⟩
  have H2 := Lib.hid (H1.out.2.trans k2)
  clear k2
  go_wp2_with fail
  exact bodyPost_ret (results_tmp rfl _ _ _) rfl ⟨rfl, H2.out⟩

theorem msgRight_any {w : World} {x : Rw} {v : Value} (h : IsMsg w x v) (hd : x.data.length ≤ 1099511627776) : Calls Try.prog 14 #[v] w fun e w' => e = .returned (.bool (rightR x)) ∧ Step [] [] w w' := by
  obtain ⟨a, cap, hr, h5⟩ := h.open_
  have hl := h.len
  obtain ⟨T, u, F, e, hF⟩ := h.flat
  have hc := hF.call w (Step.refl _ _)
  have hm := hF.method 0 w
  rcases h5 with ⟨hk, rfl⟩ | ⟨hk, rfl⟩ | ⟨hk, rfl⟩ | ⟨hk, rfl⟩ | ⟨hk, rfl⟩
  · injection e with e1 e2
    subst e1 e2
    rw [mt1] at hm
    injection hm with hm
    injection hm with hm _
    subst hm
    exact msgRight1_any x a cap w _ rfl hc hl hd
  · injection e with e1 e2
    subst e1 e2
    rw [mt2] at hm
    injection hm with hm
    injection hm with hm _
    subst hm
    exact msgRight2_any x a cap w _ rfl hc hl hd
  · injection e with e1 e2
    subst e1 e2
    rw [mt3] at hm
    injection hm with hm
    injection hm with hm _
    subst hm
    exact msgRight3_any x a cap w _ rfl hc hl hd
  · injection e with e1 e2
    subst e1 e2
    rw [mt4] at hm
    injection hm with hm
    injection hm with hm _
    subst hm
    exact msgRight4_any x a cap w _ rfl hc hl hd
  · injection e with e1 e2
    subst e1 e2
    rw [mt5] at hm
    injection hm with hm
    injection hm with hm _
    subst hm
    exact msgRight5_any x a cap w _ rfl hc hl hd
end Go.Proofs.Ytihklmomipidaaa
