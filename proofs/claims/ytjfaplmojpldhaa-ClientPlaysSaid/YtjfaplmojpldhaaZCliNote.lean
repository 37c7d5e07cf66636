/-
 Notes: made and read, by the program and by the document. Condition: at most 2^40 bytes.
-/
import Derived.Test.YtjfaplmojpldhaaZGB
import Derived.Test.YtjfaplmojpldhaaZGC
import Derived.Test.YtjfaplmojpldhaaZPackRefR
namespace Go.Proofs.Ytjfaplmojpldhaa
open Go.RowKit
set_option linter.unusedSimpArgs false
set_option linter.unusedVariables false
set_option maxRecDepth 100000

def noteIts (e l : Int) : List It := [nI 0, nI e, nI l]
def noteB (e l : Int) : List UInt8 := (written [] (noteIts e l)).1
def rdNote (s : List UInt8) : Int × Int × Bool :=
 if rend (upto (upto (upto ⟨s, false⟩ 0).2 255).2 7).2 = 0 then ((upto (upto ⟨s, false⟩ 0).2 255).1, (upto (upto (upto ⟨s, false⟩ 0).2 255).2 7).1, true) else (0, 0, false)
theorem rend_nilN {st : RS} (h : rend st = 0) : st = ⟨[], false⟩ := by
 obtain ⟨q, b⟩ := st
 unfold rend at h
 simp only at h
 split at h
 ·simp at h
 ·rename_i g
  simp at g
  obtain ⟨rfl, g2⟩ := g
  have : q = [] := by cases q; rfl; simp at g2
  rw [this]
theorem written_err (l : List It) (out bs : List UInt8) (er : Int) (h : written out l = (bs, er)) (h0 : er ≠ 0) : bs = [] := by
 induction l generalizing out with
 | nil =>
  simp [written] at h
  exact absurd h.2.symm h0
 | cons x l ih =>
  rw [written] at h
  split at h
  ·simp at h; exact h.1
  ·split at h
   ·simp at h; exact h.1
   ·exact ih _ h
theorem noteB_ok {e l : Int} (h1 : okNum e = true) (h2 : okNum l = true) : noteB e l = numB 0 ++ (numB e.toNat ++ numB l.toNat) := by
 have h := written_ok (noteIts e l) [] (by
  intro x hx _
  simp only [noteIts, List.mem_cons, List.not_mem_nil, or_false] at hx
  rcases hx with rfl | rfl | rfl
  ·rfl
  ·exact h1
  ·exact h2) (by
  have b : ∀ n : Int, okNum n = true → (numB n.toNat).length ≤ 9 := fun n hn => by
   have := okNum_iff.1 hn
   exact numB_len n.toNat (by omega)
  have b0 := b 0 rfl
  have b1 := b e h1
  have b2 := b l h2
  simp only [noteIts, itsB_cons, itsB_nil, nI_B, List.length_append, List.length_nil] at *
  omega)
 rw [noteB, h]
 simp [noteIts, itsB_cons, itsB_nil, nI_B]
theorem noteB_bad {e l : Int} (h : okNum e = false ∨ okNum l = false) : noteB e l = [] := by
 cases hw : (written [] (noteIts e l)) with
 | mk bs er =>
  by_cases h0 : er = 0
  ·exfalso
   subst h0
   have hh := (written_whole _ _ _ hw).2.2
   have g1 := (hh (nI e) (by simp [noteIts])).1 rfl
   have g2 := (hh (nI l) (by simp [noteIts])).1 rfl
   have k1 : okNum e = true := okNum_iff.2 g1
   have k2 : okNum l = true := okNum_iff.2 g2
   rcases h with h | h
   ·rw [k1] at h; cases h
   ·rw [k2] at h; cases h
  ·rw [noteB, hw]
   exact written_err _ _ _ _ hw h0
set_option maxHeartbeats 4000000 in
theorem lnote_any (e l : Int) (w : World) (he : e < 9223372036854775808) (hl : l < 9223372036854775808) : Calls Try.prog 11 #[.int .i64 e, .int .i64 l] w fun x w' => x = .returned (Str (noteB e l)) ∧ Step [] [] w w' := by
 have HI : Hid (∀ x ∈ noteIts e l, x.ok) := Lib.hid (by intro x hx; simp only [noteIts, List.mem_cons, List.not_mem_nil, or_false] at hx; rcases hx with rfl | rfl | rfl <;> simp [It.ok, nI] <;> omega)
 clear he hl
 obtain ⟨V, hV⟩ : ∃ V, V = w.alloc (.cells (itcs (noteIts e l)).toArray 88) := ⟨_, rfl⟩
 have H0 : Hid (Rd V 4 (some ⟨w.heap.size, 0, none⟩) 3 (itcs (noteIts e l)) ∧ Step [] [] w V) := Lib.hid (by rw [hV]; exact ⟨rd_blk' (xs := itcs (noteIts e l)) (Blk.new w _ _) 4 3 rfl, (Step.refl [] w).alloc _⟩)
 go_enter Try.func11, Try.ntmps11
 go_wp2_with fail
 rw [show w.alloc (.cells #[.int .i64 0, .int .i64 0, .string ⟨#[]⟩, .bool false, .int .i64 0, .int .i64 e, .string ⟨#[]⟩, .bool false, .int .i64 0, .int .i64 l, .string ⟨#[]⟩, .bool false] 88) = V from hV.symm]
 clear hV
 refine (written_any (noteIts e l) (some ⟨w.heap.size, 0, none⟩) 3 V (by simp [noteIts]) H0.out.1 HI.out).mono ?_
 rintro x V4 ⟨rfl, k4⟩
 have H4 := Lib.hid (H0.out.2.trans k4)
 clear k4
 go_wp2_with fail
 exact bodyPost_ret (results_tmp rfl _ _ _) rfl ⟨rfl, H4.out⟩
theorem rdNote_yes {s : List UInt8} (h : rend (upto (upto (upto ⟨s, false⟩ 0).2 255).2 7).2 = 0) : rdNote s = ((upto (upto ⟨s, false⟩ 0).2 255).1, (upto (upto (upto ⟨s, false⟩ 0).2 255).2 7).1, true) := if_pos h
theorem rdNote_no {s : List UInt8} (h : ¬ rend (upto (upto (upto ⟨s, false⟩ 0).2 255).2 7).2 = 0) : rdNote s = (0, 0, false) := if_neg h
set_option maxHeartbeats 4000000 in
theorem readNote_any (s : List UInt8) (w : World) (hs : s.length ≤ 1099511627776) : Calls Try.prog 10 #[Str s] w fun x w' => x = .returned (.tuple #[.int .i64 (rdNote s).1, .int .i64 (rdNote s).2.1, .bool (rdNote s).2.2]) ∧ Step [] [] w w' := by
 go_enter Try.func10, Try.ntmps10
 go_wp2_with fail
 refine (read_any s _).mono ?_
 rintro x w1 ⟨rfl, rfl⟩
 obtain ⟨p, hp⟩ : ∃ b, b = w.heap.size := ⟨_, rfl⟩
 obtain ⟨V, hV⟩ : ∃ V, V = w.alloc (.cells #[Str s, .bool false] 124) := ⟨_, rfl⟩
 have H0 : Hid (Rdr V p ⟨s, false⟩ ∧ Step [] [p] w V) := Lib.hid (by rw [hV, hp]; exact ⟨Blk.new _ _ _, ((Step.refl [] w).hold _).drop (by simp)⟩)
 rw [← hV, ← hp]
 clear hV hp
 have l1 := upto_len ⟨s, false⟩ 0
 have l2 := upto_len (upto ⟨s, false⟩ 0).2 255
 have l3 := upto_len (upto (upto ⟨s, false⟩ 0).2 255).2 7
 simp only at l1
 go_wp2_with fail
 refine (upto_any p ⟨s, false⟩ 0 V H0.out.1 (by simp only; omega)).mono ?_
 rintro x V1 ⟨rfl, g1, k1⟩
 have H1 := Lib.hid (And.intro g1 (H0.out.2.trans k1))
 clear g1 k1 H0
 go_wp2_with fail
 refine (upto_any p (upto ⟨s, false⟩ 0).2 255 V1 H1.out.1 (by omega)).mono ?_
 rintro x V2 ⟨rfl, g1, k1⟩
 have H2 := Lib.hid (And.intro g1 (H1.out.2.trans k1))
 clear g1 k1 H1
 go_wp2_with fail
 refine (upto_any p (upto (upto ⟨s, false⟩ 0).2 255).2 7 V2 H2.out.1 (by omega)).mono ?_
 rintro x V3 ⟨rfl, g1, k1⟩
 have H3 := Lib.hid (And.intro g1 (H2.out.2.trans k1))
 clear g1 k1 H2
 have HO := Lib.hid (H3.out.2.drop (S'' := []) (by simp))
 go_wp2_with fail
 refine (end_any p _ V3 H3.out.1).mono ?_
 rintro x V4 ⟨rfl, rfl⟩
 by_cases hz : rend (upto (upto (upto ⟨s, false⟩ 0).2 255).2 7).2 = 0
 ·have hzb : (rend (upto (upto (upto ⟨s, false⟩ 0).2 255).2 7).2 != 0) = false := by simp [hz]
  have HN := Lib.hid (rdNote_yes hz)
  clear hz
  go_wp2_with fail
  refine bodyPost_ret (v := .tuple #[.int .i64 (upto (upto ⟨s, false⟩ 0).2 255).1, .int .i64 (upto (upto (upto ⟨s, false⟩ 0).2 255).2 7).1, .bool true]) ?_ rfl ⟨by rw [HN.out], HO.out⟩
  simp [results, Try.results10, go_sem]
 ·have hzb : (rend (upto (upto (upto ⟨s, false⟩ 0).2 255).2 7).2 != 0) = true := by simp [hz]
  have HN := Lib.hid (rdNote_no hz)
  clear hz
  go_wp2_with fail
  refine bodyPost_ret (v := .tuple #[.int .i64 0, .int .i64 0, .bool false]) ?_ rfl ⟨by rw [HN.out], HO.out⟩
  simp [results, Try.results10, go_sem]
set_option maxHeartbeats 4000000 in
theorem rnote_any (s : List UInt8) (w : World) (hs : s.length ≤ 1099511627776) : Calls Try.prog 12 #[Str s] w fun x w' => x = .returned (.tuple #[.int .i64 (rdNote s).1, .int .i64 (rdNote s).2.1, .bool (rdNote s).2.2]) ∧ Step [] [] w w' := by
 go_enter Try.func12, Try.ntmps12
 go_upto_region 2 with fail
 obtain ⟨p, hp⟩ : ∃ b, b = w.heap.size := ⟨_, rfl⟩
 obtain ⟨V, hV⟩ : ∃ V, V = w.alloc (.cells #[Str s, .bool false] 91) := ⟨_, rfl⟩
 have H0 : Hid (Ref V p ⟨s, false⟩ ∧ Step [] [p] w V) := Lib.hid (by rw [hV, hp]; exact ⟨Blk.new _ _ _, ((Step.refl [] w).hold _).drop (by simp)⟩)
 rw [← hV, ← hp]
 clear hV hp
 have l1 := upto_len ⟨s, false⟩ 0
 have l2 := upto_len (upto ⟨s, false⟩ 0).2 255
 have l3 := upto_len (upto (upto ⟨s, false⟩ 0).2 255).2 7
 simp only at l1
 go_wp2_with fail
 refine (refNum_any p ⟨s, false⟩ 0 V H0.out.1 (by simp only; omega)).mono ?_
 rintro x V1 ⟨rfl, g1, k1⟩
 have H1 := Lib.hid (And.intro g1 (H0.out.2.trans k1))
 clear g1 k1 H0
 go_wp2_with fail
 refine (refNum_any p (upto ⟨s, false⟩ 0).2 255 V1 H1.out.1 (by omega)).mono ?_
 rintro x V2 ⟨rfl, g1, k1⟩
 have H2 := Lib.hid (And.intro g1 (H1.out.2.trans k1))
 clear g1 k1 H1
 go_wp2_with fail
 refine (refNum_any p (upto (upto ⟨s, false⟩ 0).2 255).2 7 V2 H2.out.1 (by omega)).mono ?_
 rintro x V3 ⟨rfl, g1, k1⟩
 have H3 := Lib.hid (And.intro g1 (H2.out.2.trans k1))
 clear g1 k1 H2
 have HO := Lib.hid (H3.out.2.drop (S'' := []) (by simp))
 go_wp2_with fail
 refine (refDone_any p _ V3 H3.out.1 (by omega)).mono ?_
 rintro x V4 ⟨rfl, rfl⟩
 by_cases hz : rend (upto (upto (upto ⟨s, false⟩ 0).2 255).2 7).2 = 0
 ·have hzb : (rend (upto (upto (upto ⟨s, false⟩ 0).2 255).2 7).2 == 0) = true := by simp [hz]
  have HN := Lib.hid (rdNote_yes hz)
  clear hz
  go_wp2_with fail
  refine bodyPost_ret (v := .tuple #[.int .i64 (upto (upto ⟨s, false⟩ 0).2 255).1, .int .i64 (upto (upto (upto ⟨s, false⟩ 0).2 255).2 7).1, .bool true]) ?_ rfl ⟨by rw [HN.out], HO.out⟩
  simp [results, Try.results12, go_sem]
 ·have hzb : (rend (upto (upto (upto ⟨s, false⟩ 0).2 255).2 7).2 == 0) = false := by simp [hz]
  have HN := Lib.hid (rdNote_no hz)
  clear hz
  go_wp2_with fail
  refine bodyPost_ret (v := .tuple #[.int .i64 0, .int .i64 0, .bool false]) ?_ rfl ⟨by rw [HN.out], HO.out⟩
  simp [results, Try.results12, go_sem]
end Go.Proofs.Ytjfaplmojpldhaa
