/-
  Layer 19's reference: Text, Next. Condition: texts of at most 2^30 bytes.
-/
import Derived.Test.YtdiacfbflbenoaaAuditA
import Derived.Test.YtdiacfbflbenoaaPackLaw
import Derived.Test.YtdiacfbflbenoaaHashRefSum
import Derived.Test.YtdiacfbflbenoaaHashRefJoin
namespace Go.Proofs.Ytdiacfbflbenoaa
open Go.RowKit
set_option linter.unusedSimpArgs false
set_option linter.unusedVariables false

theorem rd_blk {w : World} {g : Nat} {t : TypeId} {xs : List Value} (h : Blk w g t xs.toArray) (sz n : Nat) (hl : xs.length = n * sz) : Rd w sz (some ⟨g, 0, none⟩) n xs :=
  ⟨hl, fun _ => ⟨g, 0, rfl⟩, fun g' off sp e j u hu => by
    injection e with e
    injection e with e1 e2 e3
    subst e1 e2
    rw [Nat.zero_add, h.cell, List.getElem?_toArray, hu]⟩
def lineIts (x : Ln) : List It := [⟨0, x.index, [], false⟩, ⟨0, x.client, [], false⟩, ⟨0, x.seq, [], false⟩, ⟨1, 0, x.user, false⟩, ⟨0, x.kind, [], false⟩, ⟨0, x.err, [], false⟩, ⟨1, 0, x.digest, false⟩]
theorem lineIts_ws (x : Ln) : (written [] (lineIts x)).1 = (wbytes (lineWs x)).1 := by
  rw [← fold_written (lineIts x) [] (by simp [lineIts, It.tame])]
  simp [lineIts, lineWs, wone]
theorem numIts_ws (n : Int) : (written [] [⟨0, n, [], false⟩]).1 = (wbytes (wnum ⟨[], 0⟩ n)).1 := by
  rw [← fold_written [⟨0, n, [], false⟩] [] (by simp [It.tame])]
  simp [wone]

set_option maxHeartbeats 2000000 in
theorem refText_any (n : Int) (was : List UInt8) (x : Ln) (w : World) (hn : n < 9223372036854775808) (hx : LnOk x) (hw : was.length ≤ 1073741824) :
    Calls Try.prog 42 #[.int .i64 n, Str was, lnV x] w fun e w' => e = .returned (Str (textLn n was x)) ∧ Step [] [] w w' := by
  have hpl := partsFlat_len n was x hw
  have h1 := numIts_ws n
  have h2 := lineIts_ws x
  have hok1 : ∀ y ∈ [(⟨0, n, [], false⟩ : It)], y.ok := by intro y hy; simp at hy; subst hy; exact ⟨hn, by simp⟩
  have hok2 : ∀ y ∈ lineIts x, y.ok := by
    intro y hy
    have a := hx.index; have b := hx.client; have c := hx.seq; have d := hx.kind; have e := hx.err; have f := hx.user; have g := hx.digest
    simp only [lineIts, List.mem_cons, List.not_mem_nil, or_false] at hy
    rcases hy with rfl | rfl | rfl | rfl | rfl | rfl | rfl <;> (refine ⟨?_, ?_⟩ <;> simp only [List.length_nil] <;> omega)
  have HL : Hid (∀ W, Step [] [] w W → Blk W w.heap.size 32 (lnc x).toArray → Step [] [] w W) := fun W k _ => k
  have hs0 : (w.alloc (.cells (lnc x).toArray 32)).heap.size = w.heap.size + 1 := by simp
  have b1 := Blk.new (w.alloc (.cells (lnc x).toArray 32)) 91 (itcs [⟨0, n, [], false⟩]).toArray
  rw [hs0] at b1
  have H0 : Hid (Blk ((w.alloc (.cells (lnc x).toArray 32)).alloc (.cells (itcs [⟨0, n, [], false⟩]).toArray 91)) w.heap.size 32 (lnc x).toArray ∧ Step [] [] w ((w.alloc (.cells (lnc x).toArray 32)).alloc (.cells (itcs [⟨0, n, [], false⟩]).toArray 91)) ∧
      Blk ((w.alloc (.cells (lnc x).toArray 32)).alloc (.cells (itcs [⟨0, n, [], false⟩]).toArray 91)) (w.heap.size + 1) 91 (itcs [⟨0, n, [], false⟩]).toArray) :=
    ⟨(Blk.new w _ _).alloc _, ((Step.refl [] w).alloc _).alloc _, b1⟩
  have HE := Lib.hid (And.intro h1 h2)
  have HO := Lib.hid (And.intro hok1 hok2)
  clear h1 h2 hok1 hok2 hs0 b1 HL
  go_enter Try.func42, Try.ntmps42
  go_wp2_with fail
  refine (written_any [⟨0, n, [], false⟩] (some ⟨w.heap.size + 1, 0, none⟩) 1 _ (by simp) (rd_blk H0.out.2.2 4 1 (by simp [itcs, itc])) HO.out.1).mono ?_
  rintro e w1 ⟨rfl, k⟩
  rw [HE.out.1]
  have H1 := Lib.hid (And.intro (H0.out.1.step k (by simp)) (H0.out.2.1.trans k))
  clear k H0
  have hc := H1.out.1.ln
  go_wp2_with fail
  refine (written_any (lineIts x) (some ⟨w1.heap.size, 0, none⟩) 7 _ (by simp [lineIts]) (rd_blk (Blk.new w1 91 (itcs (lineIts x)).toArray) 4 7 (by simp [itcs, itc, lineIts])) HO.out.2).mono ?_
  rintro e w2 ⟨rfl, k⟩
  rw [HE.out.2]
  have H2 := Lib.hid ((H1.out.2.alloc _).trans k)
  clear k H1 hc
  go_wp2_with fail
  refine (refJoined_any (partsL n was x) (some ⟨w2.heap.size, 0, none⟩) 3 _ (rd_blk (Blk.new w2 9 ((partsL n was x).map Str).toArray) 1 3 (by simp [partsL])) (by simp [partsL]) hpl).mono ?_
  rintro e w3 ⟨rfl, k⟩
  go_wp2_with fail
  go_ret
  exact ⟨rfl, (H2.out.alloc _).trans k⟩

theorem next_great (n : Int) (was : List UInt8) (x : Ln) (h : n < 0 ∨ 4611686018427387903 ≤ n) : nextL n was x = sha (textLn (-1) was x) := by
  have e1 : (wbytes (wnum ⟨[], 0⟩ (-1))).1 = [] := by simp [wnum, wbytes]
  have e2 : (wbytes (wnum ⟨[], 0⟩ (afterL n))).1 = [] := by
    rcases h with h | h
    · have : afterL n = -1 := by unfold afterL; rw [if_pos h]
      rw [this, e1]
    · have : afterL n = 4611686018427387904 := by unfold afterL; rw [if_neg (by omega), if_pos (by omega)]
      rw [this]
      simp [wnum, wbytes]
  simp only [nextL, textLn, partsL, e1, e2]
theorem next_small (n : Int) (was : List UInt8) (x : Ln) (h : ¬ n < 0) (h2 : ¬ 4611686018427387903 ≤ n) : nextL n was x = sha (textLn (n + 1) was x) := by
  have : afterL n = n + 1 := by unfold afterL; rw [if_neg h, if_neg (by omega)]
  simp only [nextL, this]
theorem textLn_len (n : Int) (was : List UInt8) (x : Ln) (hw : was.length ≤ 1073741824) : (textLn n was x).length ≤ 1099511627776 := partsFlat_len n was x hw

set_option maxHeartbeats 2000000 in
theorem refNext_any (n : Int) (was : List UInt8) (x : Ln) (w : World) (h1 : n ≤ 9223372036854775807) (h2 : -9223372036854775808 ≤ n) (hx : LnOk x) (hw : was.length ≤ 1073741824) :
    Calls Try.prog 29 #[.int .i64 n, Str was, lnV x] w fun e w' => e = .returned (Str (nextL n was x)) ∧ Step [] [] w w' := by
  have HX := Lib.hid hx
  have hl1 := textLn_len (-1) was x hw
  have hl2 := textLn_len (n + 1) was x hw
  clear hx
  rcases (show n < 0 ∨ (¬ n < 0 ∧ 4611686018427387903 ≤ n) ∨ (¬ n < 0 ∧ ¬ 4611686018427387903 ≤ n) by omega) with hn | ⟨hn, hn2⟩ | ⟨hn, hn2⟩
  · have HN := Lib.hid (next_great n was x (.inl hn))
    go_enter Try.func29, Try.ntmps29
    go_wp2_with fail
    refine (refText_any (-1) was x _ (by omega) HX.out hw).mono ?_
    rintro e w1 ⟨rfl, k1⟩
    go_wp2_with fail
    refine (refSum_any _ _ hl1).mono ?_
    rintro e w2 ⟨rfl, k2⟩
    go_wp2_with fail
    go_ret
    exact ⟨by (rw [HN.out]; try rfl), (((Step.refl [] w).alloc _).trans k1).trans k2⟩
  · have HN := Lib.hid (next_great n was x (.inr hn2))
    go_enter Try.func29, Try.ntmps29
    go_wp2_with fail
    refine (refText_any (-1) was x _ (by omega) HX.out hw).mono ?_
    rintro e w1 ⟨rfl, k1⟩
    go_wp2_with fail
    refine (refSum_any _ _ hl1).mono ?_
    rintro e w2 ⟨rfl, k2⟩
    go_wp2_with fail
    go_ret
    exact ⟨by (rw [HN.out]; try rfl), (((Step.refl [] w).alloc _).trans k1).trans k2⟩
  · have HN := Lib.hid (next_small n was x hn hn2)
    have hn3 : n < 4611686018427387903 := by omega
    go_enter Try.func29, Try.ntmps29
    go_wp2_with fail
    refine (refText_any (n + 1) was x _ (by omega) HX.out hw).mono ?_
    rintro e w1 ⟨rfl, k1⟩
    go_wp2_with fail
    refine (refSum_any _ _ hl2).mono ?_
    rintro e w2 ⟨rfl, k2⟩
    go_wp2_with fail
    go_ret
    exact ⟨by (rw [HN.out]; try rfl), (((Step.refl [] w).alloc _).trans k1).trans k2⟩
end Go.Proofs.Ytdiacfbflbenoaa
