/-
 Requests in memory: acts, compares; plain, plains, slices.Clone, an Admin's only. Condition: at most 2^40 of each.
-/
import Derived.Test.YtjfaplmojpldhaaZGA
import Derived.Test.YtjfaplmojpldhaaZReqPlain
import Derived.Lib.SliceRun
import Derived.Deep.OwnRows
namespace Go.Proofs.Ytjfaplmojpldhaa
open Go.RowKit
set_option linter.unusedSimpArgs false
set_option linter.unusedVariables false
set_option maxRecDepth 100000

def dac (d : Da) : List Value := [.int .i64 d.kind, Str d.fr, Str d.to_, Str d.key, Str d.val, .int .i64 d.rev, .int .i64 d.most]
def dacs (l : List Da) : List Value := l.flatMap dac
def cpc (c : Cp) : List Value := [Str c.key, .int .i64 c.what, .int .i64 c.rev, Str c.val]
def cpcs (l : List Cp) : List Value := l.flatMap cpc
abbrev daV (d : Da) : Value := .agg #[.int .i64 d.kind, Str d.fr, Str d.to_, Str d.key, Str d.val, .int .i64 d.rev, .int .i64 d.most]
theorem dac_len (d : Da) : (dac d).length = 7 := rfl
theorem cpc_len (d : Cp) : (cpc d).length = 4 := rfl
theorem dacs_one (l : List Da) : ∀ u ∈ dacs l, u.oneCell' = true := fl_one dac (fun d u hu => by simp [dac] at hu; rcases hu with rfl | rfl | rfl | rfl | rfl | rfl | rfl <;> rfl) l
theorem cpcs_one (l : List Cp) : ∀ u ∈ cpcs l, u.oneCell' = true := fl_one cpc (fun d u hu => by simp [cpc] at hu; rcases hu with rfl | rfl | rfl | rfl <;> rfl) l
theorem dacs_app (l m : List Da) : dacs (l ++ m) = dacs l ++ dacs m := by simp [dacs]
theorem rd_da {w : World} {l : List Da} {g off : Nat} {sp n} (h : Rd w 7 (some ⟨g, off, sp⟩) n (dacs l)) {k : Nat} {d : Da} (hx : l[k]? = some d) :
  w.cell? ⟨g, off + k * 7, none⟩ = some (.int .i64 d.kind) ∧ w.cell? ⟨g, off + k * 7 + 1, none⟩ = some (Str d.fr) ∧ w.cell? ⟨g, off + k * 7 + 2, none⟩ = some (Str d.to_) ∧ w.cell? ⟨g, off + k * 7 + 3, none⟩ = some (Str d.key) ∧ w.cell? ⟨g, off + k * 7 + 4, none⟩ = some (Str d.val) ∧ w.cell? ⟨g, off + k * 7 + 5, none⟩ = some (.int .i64 d.rev) ∧ w.cell? ⟨g, off + k * 7 + 6, none⟩ = some (.int .i64 d.most) :=
 ⟨rd_fl dac 7 dac_len h hx 0 (by omega) _ rfl, rd_fl dac 7 dac_len h hx 1 (by omega) _ rfl, rd_fl dac 7 dac_len h hx 2 (by omega) _ rfl, rd_fl dac 7 dac_len h hx 3 (by omega) _ rfl, rd_fl dac 7 dac_len h hx 4 (by omega) _ rfl, rd_fl dac 7 dac_len h hx 5 (by omega) _ rfl, rd_fl dac 7 dac_len h hx 6 (by omega) _ rfl⟩
theorem rd_cp {w : World} {l : List Cp} {g off : Nat} {sp n} (h : Rd w 4 (some ⟨g, off, sp⟩) n (cpcs l)) {k : Nat} {d : Cp} (hx : l[k]? = some d) :
  w.cell? ⟨g, off + k * 4, none⟩ = some (Str d.key) ∧ w.cell? ⟨g, off + k * 4 + 1, none⟩ = some (.int .i64 d.what) ∧ w.cell? ⟨g, off + k * 4 + 2, none⟩ = some (.int .i64 d.rev) ∧ w.cell? ⟨g, off + k * 4 + 3, none⟩ = some (Str d.val) :=
 ⟨rd_fl cpc 4 cpc_len h hx 0 (by omega) _ rfl, rd_fl cpc 4 cpc_len h hx 1 (by omega) _ rfl, rd_fl cpc 4 cpc_len h hx 2 (by omega) _ rfl, rd_fl cpc 4 cpc_len h hx 3 (by omega) _ rfl⟩
theorem Try.info_cmp : (Try.prog.info? 110).map (fun i => (i.zero, i.size, i.bytes)) = some (some (.agg #[.string ⟨#[]⟩, .int .i64 0, .int .i64 0, .string ⟨#[]⟩]), 4, 48) := by kernel_rfl
theorem Try.info_do : (Try.prog.info? 108).map (fun i => (i.zero, i.size, i.bytes)) = some (some (.agg #[.int .i64 0, .string ⟨#[]⟩, .string ⟨#[]⟩, .string ⟨#[]⟩, .string ⟨#[]⟩, .int .i64 0, .int .i64 0]), 7, 88) := by kernel_rfl

def CloneP (l : List Cp) (w : World) (e : Ending) (w' : World) : Prop := ∃ a cap, e = .returned (.slice a l.length cap) ∧ Rd w' 4 a l.length (cpcs l) ∧ Step [] (blks a) w w'
set_option maxHeartbeats 1000000 in
theorem cloneP_any (l : List Cp) (a : Option Addr) (cap : Nat) (w : World) (hr : Rd w 4 a l.length (cpcs l)) (hl : l.length ≤ 1099511627776) :
  Calls Try.prog 54 #[.slice a l.length cap] w (CloneP l w) := by
 obtain ⟨i0, hi, hz0, hz1, hz2⟩ := info_parts Try.info_cmp
 have HI := Lib.hid (And.intro hi (And.intro hz0 (And.intro hz1 hz2)))
 clear hi hz0 hz1 hz2
 cases a with
 | none =>
  have hn : l = [] := by
   rcases Nat.eq_zero_or_pos l.length with h0 | h0
   ·exact List.eq_nil_of_length_eq_zero h0
   ·obtain ⟨g, off, e⟩ := hr.some_ h0; cases e
  subst hn
  clear hr
  go_enter Try.func54, Try.ntmps54
  have hq := fun W => Lib.run_eql_slice_nil (P := Try.prog) W 41 _ none 0 cap 0 0 Try.underlying41
  simp only [Option.isNone_none] at hq
  go_wp2_with fail
  refine bodyPost_ret (results_tmp rfl _ _ _) rfl ⟨none, 0, rfl, (Row.none w 4).rd, Step.refl _ _⟩
 | some ad =>
  have HS : Hid (Src Try.prog (w.alloc (.cells #[] 110)) 4 41 (.slice (some ad) l.length cap) l.length (cpcs l)) := Src.rd _ _ Try.underlying41 (hr.alloc _) (cpcs_one l)
  have hq := fun W => Lib.run_eql_slice_nil (P := Try.prog) W 41 _ (some ad) l.length cap 0 0 Try.underlying41
  simp only [Option.isNone_some] at hq
  clear hr
  go_enter Try.func54, Try.ntmps54
  go_wp2_with (at_builtin; refine wpList_append_row rfl (.tmp 5) (.tmp 6) 41 41 rfl 110 i0 _ 4 48 Try.underlying41 HI.out.1 HI.out.2.1 HI.out.2.2.1 HI.out.2.2.2 rfl rfl (Row.empty w _ 4) rfl HS.out (by unfold maxLen; omega) (by omega) (by omega) ?_; intro a' c' w1 hr1 hst1)
  rw [Nat.zero_add] at hr1
  have H1 := Lib.hid (And.intro hr1 hst1)
  clear hr1 hst1
  go_wp2_with fail
  refine bodyPost_ret (results_tmp rfl _ _ _) rfl ⟨a', c', by simp, H1.out.1.rd, ?_⟩
  exact (((Step.refl [] w).hold _).trans H1.out.2).drop (by simp)

theorem plain1_any (d : Da) (w : World) (hk : d.kind = 1) : Calls Try.prog 77 #[daV d] w fun e w' => e = .returned (daV (actL d)) ∧ Step [] [] w w' := by
 have HC := Lib.hid (show actL d = ⟨d.kind, d.fr, d.to_, [], [], d.rev, d.most⟩ by simp [actL, hk])
 have k1 : (d.kind == 1) = true := by simp [hk]
 have k2 : (d.kind == 2) = false := by simp [hk]
 have k3 : (d.kind == 3) = false := by simp [hk]
 clear hk
 go_enter Try.func77, Try.ntmps77
 go_wp2_with fail
 refine bodyPost_ret (v := daV (actL d)) ?_ rfl ⟨rfl, ((Step.refl [] w).alloc _).alloc _⟩
 rw [HC.out]
 simp [results, Try.results77, go_sem]
theorem plain2_any (d : Da) (w : World) (hk : d.kind = 2) : Calls Try.prog 77 #[daV d] w fun e w' => e = .returned (daV (actL d)) ∧ Step [] [] w w' := by
 have HC := Lib.hid (show actL d = ⟨d.kind, [], [], d.key, d.val, 0, 0⟩ by simp [actL, hk])
 have k1 : (d.kind == 1) = false := by simp [hk]
 have k2 : (d.kind == 2) = true := by simp [hk]
 have k3 : (d.kind == 3) = false := by simp [hk]
 clear hk
 go_enter Try.func77, Try.ntmps77
 go_wp2_with fail
 refine bodyPost_ret (v := daV (actL d)) ?_ rfl ⟨rfl, ((Step.refl [] w).alloc _).alloc _⟩
 rw [HC.out]
 simp [results, Try.results77, go_sem]
theorem plain3_any (d : Da) (w : World) (hk : d.kind = 3) : Calls Try.prog 77 #[daV d] w fun e w' => e = .returned (daV (actL d)) ∧ Step [] [] w w' := by
 have HC := Lib.hid (show actL d = ⟨d.kind, d.fr, d.to_, [], [], 0, 0⟩ by simp [actL, hk])
 have k1 : (d.kind == 1) = false := by simp [hk]
 have k2 : (d.kind == 2) = false := by simp [hk]
 have k3 : (d.kind == 3) = true := by simp [hk]
 clear hk
 go_enter Try.func77, Try.ntmps77
 go_wp2_with fail
 refine bodyPost_ret (v := daV (actL d)) ?_ rfl ⟨rfl, ((Step.refl [] w).alloc _).alloc _⟩
 rw [HC.out]
 simp [results, Try.results77, go_sem]
theorem plain0_any (d : Da) (w : World) (hk : ¬ d.kind = 1 ∧ ¬ d.kind = 2 ∧ ¬ d.kind = 3) : Calls Try.prog 77 #[daV d] w fun e w' => e = .returned (daV (actL d)) ∧ Step [] [] w w' := by
 have HC := Lib.hid (show actL d = ⟨d.kind, [], [], [], [], 0, 0⟩ by simp [actL, hk])
 have k1 : (d.kind == 1) = false := by simp [hk]
 have k2 : (d.kind == 2) = false := by simp [hk]
 have k3 : (d.kind == 3) = false := by simp [hk]
 clear hk
 go_enter Try.func77, Try.ntmps77
 go_wp2_with fail
 refine bodyPost_ret (v := daV (actL d)) ?_ rfl ⟨rfl, ((Step.refl [] w).alloc _).alloc _⟩
 rw [HC.out]
 simp [results, Try.results77, go_sem]
theorem plain_any (d : Da) (w : World) : Calls Try.prog 77 #[daV d] w fun e w' => e = .returned (daV (actL d)) ∧ Step [] [] w w' := by
 by_cases h1 : d.kind = 1
 ·exact plain1_any d w h1
 ·by_cases h2 : d.kind = 2
  ·exact plain2_any d w h2
  ·by_cases h3 : d.kind = 3
   ·exact plain3_any d w h3
   ·exact plain0_any d w ⟨h1, h2, h3⟩
def PlainsP (l : List Da) (w : World) (e : Ending) (w' : World) : Prop := ∃ a cap, e = .returned (.slice a l.length cap) ∧ Rd w' 7 a l.length (dacs (l.map actL)) ∧ Step [] (blks a) w w'
set_option maxHeartbeats 2000000 in
theorem plains_any (l : List Da) (a : Option Addr) (cap : Nat) (w : World) (hr : Rd w 7 a l.length (dacs l)) (hl : l.length ≤ 1099511627776) :
  Calls Try.prog 55 #[.slice a l.length cap] w (PlainsP l w) := by
 have HR := Lib.hid hr
 clear hr
 obtain ⟨i0, hi, hz0, hz1, hz2⟩ := info_parts Try.info_do
 have HI := Lib.hid (And.intro hi (And.intro hz0 (And.intro hz1 hz2)))
 clear hi hz0 hz1 hz2
 go_enter Try.func55, Try.ntmps55
 go_wp2_with fail
 go_loopw [3, 8] (fun o i W => ∃ (k : Nat) (b : Option Addr) (c : Nat), k ≤ l.length ∧ i = .int .i64 k ∧ o = .slice b k c ∧ Hid (Row W 7 b k c (dacs ((l.take k).map actL)) ∧ Step [] (blks b) w W)) (fun _ i _ => l.length - (intOf i).toNat)
 case atStart => exact ⟨0, none, 0, by omega, rfl, rfl, Row.none w 7, Step.refl _ _⟩
 case round =>
  rename World => W
  obtain ⟨k, b, c, hk, rfl, rfl, HW⟩ := hrel
  by_cases hlt : k < l.length
  ·have hlt' : (k : Int) < l.length := by omega
   obtain ⟨d, hd⟩ : ∃ d, l[k]? = some d := ⟨_, List.getElem?_eq_getElem hlt⟩
   have hrd := HR.out.step0 HW.out.2
   obtain ⟨g, off, hsa⟩ := hrd.some_ (by omega)
   subst hsa
   have cd := rd_da hrd hd
   have gl : g < W.heap.size := by have := World.block_lt_of_cell? _ _ cd.1; simpa using this
   have HX := Lib.hid hd
   clear hd hrd
   go_wp2_with fail
   refine (plain_any d _).mono ?_
   rintro e W1 ⟨rfl, k1⟩
   have H1 : Hid (Row W1 7 b k c (dacs ((l.take k).map actL)) ∧ Step [] (blks b) w W1) := by
    have k2 := ((Step.refl [] W).alloc (.cells (dac d).toArray 108)).trans k1
    exact ⟨HW.out.1.step k2 (by simp), HW.out.2.trans (by simpa using k2.frame (blks b))⟩
   obtain ⟨y, hy⟩ : ∃ y, y = actL d := ⟨_, rfl⟩
   have HY := Lib.hid hy
   rw [← hy]
   clear k1 cd gl hy
   obtain ⟨eb, heb⟩ : ∃ eb, eb = W1.heap.size := ⟨_, rfl⟩
   obtain ⟨W2, hW2⟩ : ∃ W2, W2 = W1.alloc (.cells (dac y).toArray 108) := ⟨_, rfl⟩
   have H2 : Hid (Row W2 7 b k c (dacs ((l.take k).map actL)) ∧ Step [] (blks b) w W2 ∧ Rd W2 7 (some ⟨eb, 0, none⟩) 1 (dacs [y])) := by
    rw [hW2, heb]
    exact ⟨H1.out.1.alloc _, H1.out.2.alloc _, rd_blk' (xs := dacs [y]) (by simpa [dacs] using Blk.new W1 108 (dac y).toArray) 7 1 rfl⟩
   have HW2 := Lib.hid hW2
   have HEB := Lib.hid heb
   clear hW2 heb H1
   go_wp2_with (at_builtin; rw [show W1.heap.size = eb from HEB.out.symm, show W1.alloc (.cells #[.int .i64 y.kind, .string ⟨y.fr.toArray⟩, .string ⟨y.to_.toArray⟩, .string ⟨y.key.toArray⟩, .string ⟨y.val.toArray⟩, .int .i64 y.rev, .int .i64 y.most] 108) = W2 from HW2.out.symm]; refine wpList_append_row rfl (.tmp 12) (.tmp 15) 42 42 rfl 108 i0 _ 7 88 Try.underlying42 HI.out.1 HI.out.2.1 HI.out.2.2.1 HI.out.2.2.2 rfl rfl H2.out.1 rfl (Src.rd 42 108 Try.underlying42 H2.out.2.2 (dacs_one _)) (by unfold maxLen; omega) (by omega) (by omega) ?_; intro a9 c9 w9 hr9 st9; rw [← dacs_app, HY.out, show (l.take k).map actL ++ [actL d] = (l.take (k + 1)).map actL by rw [List.take_add_one, HX.out]; simp] at hr9; have H9 : Hid (Row w9 7 a9 (k + 1) c9 (dacs ((l.take (k + 1)).map actL)) ∧ Step [] (blks a9) w w9) := ⟨hr9, H2.out.2.1.trans st9⟩; clear hr9 st9)
   go_wp2_with fail
   go_roundw
   case rel => exact ⟨k + 1, a9, c9, by omega, by go_num, rfl, H9.out⟩
   case measure => simp [intOf]; omega
  ·obtain rfl : k = l.length := by omega
   go_wp2_with fail
   refine bodyPost_ret (results_tmp rfl _ _ _) rfl ⟨b, c, rfl, ?_, HW.out.2⟩
   have := HW.out.1.rd
   rwa [List.take_length] at this
theorem admin_any (k : Int) (w : World) : Calls Try.prog 56 #[.int .i64 k] w fun e w' => e = .returned (.bool (decide (4 ≤ k ∧ k ≤ 14))) ∧ w = w' := by
 by_cases h0 : 4 ≤ k
 ·have h0d : decide (4 ≤ k) = true := decide_eq_true h0
  by_cases h4 : k ≤ 14
  ·have HE : Hid (decide (4 ≤ k ∧ k ≤ 14) = true) := Lib.hid (decide_eq_true ⟨h0, h4⟩)
   have h4d : decide (k ≤ 14) = true := decide_eq_true h4
   clear h0 h4
   go_enter Try.func56, Try.ntmps56
   go_wp2_with fail
   exact bodyPost_ret (results_tmp rfl _ _ _) rfl ⟨by rw [HE.out]; rfl, rfl⟩
  ·have HE : Hid (decide (4 ≤ k ∧ k ≤ 14) = false) := Lib.hid (decide_eq_false (by omega))
   have h4d : decide (k ≤ 14) = false := decide_eq_false h4
   clear h0 h4
   go_enter Try.func56, Try.ntmps56
   go_wp2_with fail
   exact bodyPost_ret (results_tmp rfl _ _ _) rfl ⟨by rw [HE.out]; rfl, rfl⟩
 ·have h0d : decide (4 ≤ k) = false := decide_eq_false h0
  have HE : Hid (decide (4 ≤ k ∧ k ≤ 14) = false) := Lib.hid (decide_eq_false (by omega))
  clear h0
  go_enter Try.func56, Try.ntmps56
  go_wp2_with fail
  exact bodyPost_ret (results_tmp rfl _ _ _) rfl ⟨by rw [HE.out]; rfl, rfl⟩
end Go.Proofs.Ytjfaplmojpldhaa
