/-
  name.wrong, name.high, name.Count, name.Right. Conditions: texts of at most 2^40 bytes; utf8's tables as Go lays them.
-/
import Derived.Test.YtfkjgkgflkhbnaaDoorNameRune
import Derived.Test.YtfkjgkgflkhbnaaDoorNameRefL
namespace Go.Proofs.YtfkjgkgflkhbnaaDoor
open Go.RowKit Go.Lib
set_option linter.unusedSimpArgs false
set_option linter.unusedVariables false

abbrev Tabs (w : World) : Prop := Utf8Tabs 0 1 w
theorem Tabs.below {w w' : World} (h : Tabs w) (k : Below w.heap.size w w') : Tabs w' := Utf8Tabs_below h k
theorem Tabs.step {w w' : World} {S : List Nat} (h : Tabs w) (k : Step [] S w w') : Tabs w' := Utf8Tabs_below h k.below0

theorem high_any (c : Nat) (w : World) : Calls Tryd.prog 39 #[.int .i32 (c : Int)] w fun e w' => e = .returned (.bool (decide (161 ≤ c))) ∧ w = w' := by
  have hd : decide (161 ≤ c) = decide ((161 : Int) ≤ c) := by rw [decide_eq_decide]; omega
  rw [hd]
  clear hd
  go_enter Tryd.func39, Tryd.ntmps39
  go_wp2_with fail
  go_ret
  exact ⟨rfl, rfl⟩

theorem wrong_not (v v2 : Value) (c : Nat) (w : World) (h : c ≠ 65533) : Calls Tryd.prog 38 #[v, v2, .int .i32 (c : Int)] w fun e w' => e = .returned (.bool false) ∧ w = w' := by
  have h' : ((c : Int) == 65533) = false := by simp; omega
  have h'' : ((c : Int) != 65533) = true := by simp; omega
  clear h
  go_enter Tryd.func38, Tryd.ntmps38
  go_wp2_with fail
  go_ret
  exact ⟨rfl, rfl⟩
theorem wrong_err (s : List UInt8) (k : Nat) (hk : k < s.length) (w : World) (hs : s.length ≤ 1099511627776) (hT : Tabs w) :
    Calls Tryd.prog 38 #[Str s, .int .i64 (k : Int), .int .i32 65533] w fun e w' => e = .returned (.bool (((rune (s.drop k)).2 : Int) == 1)) ∧ Step [] [] w w' := by
  have hg := go_rune (s.drop k) (by simp; omega)
  have hk' : (k : Int) < s.length := by omega
  have hk2 : (k : Int) ≤ s.length := by omega
  have HT := Lib.hid hT
  clear hT
  generalize rune (s.drop k) = q at *
  have HG := Lib.hid hg
  clear hg
  go_enter Tryd.func38, Tryd.ntmps38
  go_wp2_with fail
  refine (Tryd.utf8_DecodeRuneInString ⟨(s.drop k).toArray⟩ w HT.out).mono ?_
  rintro e w1 ⟨rfl, hb⟩
  rw [HG.out]
  have HB := Lib.hid hb
  clear hb
  go_wp2_with fail
  go_ret
  exact ⟨rfl, Step.of_below HB.out⟩
theorem wrong_any (s : List UInt8) (k : Nat) (hk : k < s.length) (w : World) (hs : s.length ≤ 1099511627776) (hT : Tabs w) :
    Calls Tryd.prog 38 #[Str s, .int .i64 (k : Int), .int .i32 ((rune (s.drop k)).1 : Int)] w fun e w' => e = .returned (.bool (decide (sizeOf8 (s.drop k) = 0))) ∧ Step [] [] w w' := by
  have hp : 0 < (s.drop k).length := by simp; omega
  by_cases hc : (rune (s.drop k)).1 = 65533
  · rw [hc]
    refine (wrong_err s k hk w hs hT).mono ?_
    rintro e w' ⟨rfl, h⟩
    refine ⟨?_, h⟩
    have : (((rune (s.drop k)).2 : Int) == 1) = decide (sizeOf8 (s.drop k) = 0) := by
      by_cases h0 : sizeOf8 (s.drop k) = 0
      · rw [rune_bad _ hp h0]; simp [h0]
      · have h1 : sizeOf8 (s.drop k) ≠ 1 := by
          intro h1
          have := rune_one _ hp h1
          omega
        rw [rune_width _ hp h0]
        simp [h0]; omega
    rw [this]
  · refine (wrong_not _ _ _ w hc).mono ?_
    rintro e w' ⟨rfl, rfl⟩
    refine ⟨?_, Step.refl _ _⟩
    have : sizeOf8 (s.drop k) ≠ 0 := by
      intro h0
      rw [rune_bad _ hp h0] at hc
      exact hc rfl
    rw [decide_eq_false this]

/-- The iterator in block `b` stands at `k`. -/
def It8 (w : World) (b : Nat) (s : List UInt8) (k : Nat) : Prop := w.heap[b]? = some (.stringIter ⟨s.toArray⟩ k)
theorem It8.step {w w' : World} {b k : Nat} {s : List UInt8} {S S' : List Nat} (h : It8 w b s k) (q : Step S S' w w') (hn : b ∉ S) : It8 w' b s k :=
  (q.block b (lt_of_block h) hn).trans h
theorem It8.pos {w : World} {b k : Nat} {s : List UInt8} (h : It8 w b s k) : w.iterPos b = k := by unfold It8 at h; simp [World.iterPos, h]
theorem It8.next {w : World} {b k : Nat} {s : List UInt8} (h : It8 w b s k) (hk : k < s.length) (P : Program) (ty : TypeId) :
    (Instr.next (.pointer (some ⟨b, 0, none⟩)) true ty).run P w = .ok (.tuple #[.bool true, .int .i64 k, .int .i32 (rune (s.drop k)).1]) (w.iterAt b ⟨s.toArray⟩ (k + stepL (s.drop k))) := by
  have := run_next_any_at (P := P) w b ⟨s.toArray⟩ k ty h (by simpa [ByteArray.size] using hk)
  rw [decode_rune, rune_step _ (by simp; omega)] at this
  exact this
theorem It8.moved {w : World} {b k : Nat} {s : List UInt8} (h : It8 w b s k) (k' : Nat) : It8 (w.iterAt b ⟨s.toArray⟩ k') b s k' := iterAt_heap w b _ k k' h
theorem It8.stop {w : World} {b k : Nat} {s : List UInt8} (h : It8 w b s k) (hk : ¬ k < s.length) (P : Program) (ty : TypeId) :
    (Instr.next (.pointer (some ⟨b, 0, none⟩)) true ty).run P w = .ok (.tuple #[.bool false]) w :=
  run_next_end_at w b ⟨s.toArray⟩ k ty h (by simpa [ByteArray.size] using hk)
theorem Step.iterAt {S S' : List Nat} {w w' : World} (h : Step S S' w w') {b : Nat} (hb : b ∈ S' ∨ w.heap.size ≤ b) (s : ByteArray) (k : Nat) : Step S S' w (w'.iterAt b s k) :=
  ⟨h.os, h.tape, h.output, by rw [iterAt_size]; exact h.size, fun j hj hn => (iterAt_other w' b j s k (by
    rintro rfl
    rcases hb with hp | hp
    · rcases h.fresh _ hp with h1 | h1
      · exact hn h1
      · omega
    · omega)).trans (h.block j hj hn), h.fresh⟩

end Go.Proofs.YtfkjgkgflkhbnaaDoor
