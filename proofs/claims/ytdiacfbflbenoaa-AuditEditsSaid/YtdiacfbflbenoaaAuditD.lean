/-
  audit.New, Head, Base, Lines, slices.Clone of lines. Condition: at most 2^40 lines.
-/
import Derived.Test.YtdiacfbflbenoaaAuditC
import Derived.Lib.SliceRun
import Derived.Deep.OwnRows
namespace Go.Proofs.Ytdiacfbflbenoaa
open Go.RowKit
set_option linter.unusedSimpArgs false
set_option linter.unusedVariables false
set_option maxRecDepth 100000

theorem Try.info_line : (Try.prog.info? 32).map (fun i => (i.zero, i.size, i.bytes)) = some (some (.agg #[.int .i64 0, .int .i64 0, .int .i64 0, .string ⟨#[]⟩, .int .i64 0, .int .i64 0, .string ⟨#[]⟩, .string ⟨#[]⟩]), 8, 88) := by kernel_rfl
def ClonePost (l : List Ln) (w : World) (e : Ending) (w' : World) : Prop := ∃ a cap, e = .returned (.slice a l.length cap) ∧ Row w' 8 a l.length cap (lncs l) ∧ Step [] (blks a) w w'
set_option maxHeartbeats 1000000 in
theorem cloneLn_any (l : List Ln) (a : Option Addr) (cap : Nat) (w : World) (hr : Rd w 8 a l.length (lncs l)) (hl : l.length ≤ 1099511627776) (hcap : a = none → cap = 0) :
    Calls Try.prog 30 #[.slice a l.length cap] w (ClonePost l w) := by
  obtain ⟨i0, hi, hz0, hz1, hz2⟩ := info_parts Try.info_line
  have HI := Lib.hid (And.intro hi (And.intro hz0 (And.intro hz1 hz2)))
  clear hi hz0 hz1 hz2
  cases a with
  | none =>
    have hn : l = [] := by
      rcases Nat.eq_zero_or_pos l.length with h0 | h0
      · exact List.eq_nil_of_length_eq_zero h0
      · obtain ⟨g, off, e⟩ := hr.some_ h0; cases e
    subst hn
    obtain rfl := hcap rfl
    clear hr hcap
    go_enter Try.func30, Try.ntmps30
    have hq := fun W => Lib.run_eql_slice_nil (P := Try.prog) W 27 _ none 0 0 0 0 Try.underlying27
    simp only [Option.isNone_none] at hq
    go_wp2_with fail
    refine bodyPost_ret (results_tmp rfl _ _ _) rfl ⟨none, 0, rfl, Row.none _ _, Step.refl _ _⟩
  | some ad =>
    have HS : Hid (Src Try.prog (w.alloc (.cells #[] 32)) 8 27 (.slice (some ad) l.length cap) l.length (lncs l)) := Src.rd _ _ Try.underlying27 (hr.alloc _) (lncs_one l)
    have hq := fun W => Lib.run_eql_slice_nil (P := Try.prog) W 27 _ (some ad) l.length cap 0 0 Try.underlying27
    simp only [Option.isNone_some] at hq
    clear hr
    go_enter Try.func30, Try.ntmps30
    go_wp2_with (at_builtin; refine wpList_append_row rfl (.tmp 5) (.tmp 6) 27 27 rfl 32 i0 _ 8 88 Try.underlying27 HI.out.1 HI.out.2.1 HI.out.2.2.1 HI.out.2.2.2 rfl rfl (Row.empty w _ 8) rfl HS.out (by unfold maxLen; omega) (by omega) (by omega) ?_; intro a' c' w1 hr1 hst1)
    rw [Nat.zero_add] at hr1
    have H1 := Lib.hid (And.intro hr1 hst1)
    clear hr1 hst1
    go_wp2_with fail
    refine bodyPost_ret (results_tmp rfl _ _ _) rfl ⟨a', c', by simp, H1.out.1, ?_⟩
    exact (((Step.refl [] w).hold _).trans H1.out.2).drop (by simp)

def LinesPost (c : Ch) (w : World) (e : Ending) (w' : World) : Prop := ClonePost c.ls w e w'
theorem lines_any (p : Nat) (S : List Nat) (c : Ch) (w : World) (h : Chn w p S c) (hc : ChOk c) :
    Calls Try.prog 18 #[.pointer (some ⟨p, 0, none⟩)] w (LinesPost c w) := by
  obtain ⟨a, cap, h1, h2, h3, h4⟩ := h
  have c2 := h1.cell 2
  simp only [List.getElem?_toArray, List.getElem?_cons_zero, List.getElem?_cons_succ] at c2
  have hl := hc.len
  have HR := Lib.hid h2.rd
  have HN := Lib.hid h2.nil
  clear h1 h2 h3 h4 hc
  go_enter Try.func18, Try.ntmps18
  go_wp2_with fail
  refine (cloneLn_any c.ls a cap w HR.out hl HN.out).mono ?_
  rintro e w1 ⟨a', c', rfl, g, k⟩
  have H := Lib.hid (And.intro g k)
  clear g k
  go_wp2_with fail
  refine bodyPost_ret (results_tmp rfl _ _ _) rfl ⟨a', c', rfl, H.out.1, H.out.2⟩
theorem lines_nil (w : World) : Calls Try.prog 18 #[.pointer none] w fun e w' => e = .returned (.slice none 0 0) ∧ w = w' := by
  go_enter Try.func18, Try.ntmps18
  go_wp2_with fail
  go_ret
  exact ⟨rfl, rfl⟩
theorem base_nil (w : World) : Calls Try.prog 15 #[.pointer none] w fun e w' => e = .returned (.tuple #[.int .i64 0, Str []]) ∧ w = w' := by
  go_enter Try.func15, Try.ntmps15
  go_wp2_with fail
  exact bodyPost_ret (results_tmp2 rfl _ _ _) rfl ⟨rfl, rfl⟩
theorem headOut_nil (w : World) : Calls Try.prog 14 #[.pointer none] w fun e w' => e = .returned (.tuple #[.int .i64 0, Str []]) ∧ w = w' := by
  go_enter Try.func14, Try.ntmps14
  go_wp2_with fail
  exact bodyPost_ret (results_tmp2 rfl _ _ _) rfl ⟨rfl, rfl⟩
theorem base_any (p : Nat) (S : List Nat) (c : Ch) (w : World) (h : Chn w p S c) :
    Calls Try.prog 15 #[.pointer (some ⟨p, 0, none⟩)] w fun e w' => e = .returned (.tuple #[.int .i64 c.base.count, Str c.base.hash]) ∧ Step [] [] w w' := by
  obtain ⟨a, cap, h1, h2, h3, h4⟩ := h
  have c0 := h1.cell 0
  have c1 := h1.cell 1
  simp only [List.getElem?_toArray, List.getElem?_cons_zero, List.getElem?_cons_succ] at c0 c1
  clear h1 h2 h3 h4
  go_enter Try.func15, Try.ntmps15
  go_wp2_with fail
  go_quiet (fail)
  go_wp2_with fail
  exact bodyPost_ret (results_tmp2 rfl _ _ _) rfl ⟨rfl, (Step.refl [] w).drewN _⟩
theorem headOut_any (p : Nat) (S : List Nat) (c : Ch) (w : World) (h : Chn w p S c) (hc : ChOk c) :
    Calls Try.prog 14 #[.pointer (some ⟨p, 0, none⟩)] w fun e w' => e = .returned (.tuple #[.int .i64 (headL c.base c.ls).count, Str (headL c.base c.ls).hash]) ∧ Step [] [] w w' := by
  have hh := headIn_any p S c w h hc
  generalize headL c.base c.ls = q at *
  have HH := Lib.hid hh
  clear hh h
  go_enter Try.func14, Try.ntmps14
  go_wp2_with fail
  refine HH.out.mono ?_
  rintro e w1 ⟨rfl, k⟩
  have K := Lib.hid k
  clear k
  go_wp2_with fail
  go_quiet (fail)
  go_wp2_with fail
  exact bodyPost_ret (results_tmp2 rfl _ _ _) rfl ⟨rfl, (K.out.alloc _).drewN _⟩
def Z32 : Array Value := madeCells #[Value.int .u8 0] 32
theorem mk32 (W : World) : (Instr.makeSlice 26 (.int .i64 32) (.int .i64 32)).run Try.prog W = .ok (.slice (some ⟨W.heap.size, 0, none⟩) 32 32) (W.alloc (.cells Z32 5)) :=
  run_make_row' (P := Try.prog) 26 5 (.int .u8 0) 1 Try.underlying26 Try.info_bytes rfl .i64 .i64 32 (by omega) (by omega) W
abbrev zeros : List UInt8 := List.replicate 32 0
theorem str32 (W : World) : (convert 26 9 (.slice (some ⟨W.heap.size, 0, none⟩) 32 32)).run Try.prog (W.alloc (.cells Z32 5)) = .ok (Str zeros) (W.alloc (.cells Z32 5)) :=
  run_str_of_blk (Blk.new W 5 Z32) 26 9 5 Try.underlying26 Try.underlying5 Try.underlying9 0 32 32 zeros rfl (by unfold Z32; rw [toList_madeCells_one]; rfl)
set_option maxHeartbeats 1000000 in
theorem auditNew_any (w : World) : Calls Try.prog 8 #[] w fun e w' => ∃ p, e = .returned (.pointer (some ⟨p, 0, none⟩)) ∧ Chn w' p [p] ⟨⟨0, zeros⟩, []⟩ ∧ Step [] [p] w w' := by
  have h1 := mk32 w
  have h2 := str32 w
  go_enter Try.func8, Try.ntmps8
  go_wp2_with fail
  refine bodyPost_ret (results_tmp rfl _ _ _) rfl ⟨w.heap.size + 1, rfl, ?_, ?_⟩
  · have hb := Blk.new (w.alloc (.cells Z32 5)) 59 #[.int .i64 0, Str zeros, .slice none 0 0]
    rw [show (w.alloc (.cells Z32 5)).heap.size = w.heap.size + 1 by simp] at hb
    exact ⟨none, 0, hb, Row.none _ _, by simp [blks], rfl⟩
  · have k := ((Step.refl [] w).alloc (.cells Z32 5)).hold (.cells #[.int .i64 0, Str zeros, .slice none 0 0] 59)
    rw [show (w.alloc (.cells Z32 5)).heap.size = w.heap.size + 1 by simp] at k
    exact k
end Go.Proofs.Ytdiacfbflbenoaa
