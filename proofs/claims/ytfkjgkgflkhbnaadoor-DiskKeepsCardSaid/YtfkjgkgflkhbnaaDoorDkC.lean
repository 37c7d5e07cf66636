/-
  A disk's Used and Names in memory; and each on no disk. Conditions: the bounds of StB.
-/
import Derived.Test.YtfkjgkgflkhbnaaDoorDkB
import Derived.Test.YtfkjgkgflkhbnaaDoorDkPlain2
import Derived.Test.YtfkjgkgflkhbnaaDoorDkShelf
namespace Go.Proofs.YtfkjgkgflkhbnaaDoor
open Go.RowKit Go.Maps
set_option linter.unusedSimpArgs false
set_option linter.unusedVariables false
set_option maxRecDepth 100000

/-- What has been summed so far. -/
def UsR (w : World) (m : Nat) (L : List Fil) (ss : List (List UInt8)) (left : Lit → Bool) (cnt : Nat) (wr : World) : Prop :=
  wr.ranges Tryd.prog 9 ptrElem m w.heap.size L.length (dat L) left cnt ∧ Collected (dat L) left ss ∧ Step [] [] w wr
def ptrV (p : Option Nat) : Value := .pointer (p.map fun b => ⟨b, 0, none⟩)
@[go_sem] theorem ptrV_some (b : Nat) : ptrV (some b) = .pointer (some ⟨b, 0, none⟩) := rfl

theorem ranges_drewN {w : World} {P : Program} {k : TypeId} {R : Value → Option (DataW Unit × List MemPlace)} {b r n : Nat} {D : DataW Unit} {left : Lit → Bool} {cnt : Nat} (h : w.ranges P k R b r n D left cnt) (j : Nat) : (w.drewN j).ranges P k R b r n D left cnt :=
  h.kept (row := none) ⟨rfl, rfl, rfl, Nat.le_refl _, fun _ _ _ => rfl⟩ (by simp) (by simp)
theorem used_nil (w : World) : Calls Tryd.prog 14 #[.pointer none] w fun e w' => e = .returned (.int .i64 0) ∧ w = w' := by
  go_enter Tryd.func14, Tryd.ntmps14
  go_wp2_with fail
  refine (down_nil w).mono ?_
  rintro e w1 ⟨rfl, rfl⟩
  go_wp2_with fail
  exact bodyPost_ret (results_tmp rfl _ _ _) rfl ⟨rfl, rfl⟩
theorem used_any (w : World) (S : List Nat) (d : Nat) (s : St) (h : Dk w S d s) (hB : StB s) : Calls Tryd.prog 14 #[.pointer (some ⟨d, 0, none⟩)] w fun e w' => e = .returned (.int .i64 (usedS s : Nat)) ∧ Step [] [] w w' := by
  obtain ⟨m, L, h1, h2⟩ := h
  have c0 := h1.blk.cell 0
  simp only [List.getElem?_toArray, List.getElem?_cons_zero, List.getElem?_cons_succ] at c0
  have HB := Lib.hid (And.intro h1 h2)
  have HU := Lib.hid hB.used
  clear h1 h2 hB
  go_enter Tryd.func14, Tryd.ntmps14
  go_wp2_with fail
  refine (down_any w d m s.room s.fuse s.off HB.out.1.blk).mono ?_
  rintro e w1 ⟨rfl, rfl⟩
  cases ho : s.off with
  | true =>
    have HO := Lib.hid ho
    clear ho
    go_wp2_with fail
    exact bodyPost_ret (results_tmp rfl _ _ _) rfl ⟨by simp [usedS, HO.out], Step.refl _ _⟩
  | false =>
    have HO := Lib.hid ho
    clear ho
    go_wp2_with (at_range; refine wpList_range_own _ rfl _ 56 rfl 9 60 (string_keyed Tryd.underlying9) Tryd.underlying56 ptrElem m L.length (dat L) rfl HB.out.1.own ?_; intro w0 hrg0 hg0 hs0)
    go_frame
    go_loopw [3] (fun v wr => ∃ ss left cnt, v = .int .i64 (sumU L ss : Nat) ∧ Hid (UsR w m L ss left cnt wr)) (fun _ wr => wr.rangeLeft m w.heap.size)
    case atStart => exact ⟨[], _, _, rfl, Lib.hid ⟨hrg0, Collected.start _, (Step.refl [] w).of_grown hg0 (by simp)⟩⟩
    case round =>
      rename World => W
      obtain ⟨ss, left, cnt, rfl, HW⟩ := hrel
      have hbd := Lib.hid (sumU_le HW.out.2.1 HB.out.1.ris)
      go_wp2_with (at_next; refine wpList_next_ranges _ rfl _ rfl 9 (string_keyed Tryd.underlying9) ptrElem encStr ptrV (fun key kl hk => by obtain ⟨x, hx, _⟩ := Maps.keyOf_str Tryd.underlying9 hk; exact ⟨x, hx⟩) (fun v y hv => ptrElem_some hv) m w.heap.size L.length _ _ _ rfl HW.out.1 ?_ ?_)
      · intro _ hl0
        have hend := Lib.hid (sumU_end HW.out.2.1 HB.out.1.ris hl0)
        go_wp2_with fail
        exact bodyPost_ret (results_tmp rfl _ _ _) rfl ⟨by rw [hend.out, HB.out.2]; simp [usedS, HO.out], HW.out.2.2⟩
      · intro x c kl yd yp w2 cnt2 hkey hlk hv hat hrg2 hlt hg2 hs2 hen
        obtain ⟨x', ex, rfl, _⟩ := Maps.keyOf_str Tryd.underlying9 hkey
        obtain rfl : x = x' := encStr_inj ex
        obtain ⟨f, hf, rfl, rfl⟩ := dat_entry hv hat
        have hC2 := HW.out.2.1.step hlk hat
        have hst2 := HW.out.2.2.of_grown hg2 (by intro j hj; cases hj; exact .inr (Nat.le_refl _))
        have hle := sumU_le hC2 HB.out.1.ris
        have hsm : sumU L (ss ++ [f.n]) = sumU L ss + (f.d.length + f.l.length) := by rw [sumU_app]; simp [sumU, sizeU_mem HB.out.1.ris hf]
        rw [hsm, HB.out.2] at hle
        have hbf := (HB.out.1.fil f hf).step hst2 (by simp)
        have g0 := hbf.cell 0
        have g1 := hbf.cell 1
        simp only [List.getElem?_toArray, List.getElem?_cons_zero, List.getElem?_cons_succ] at g0 g1
        have HZ := Lib.hid (And.intro hrg2 (And.intro hC2 hst2))
        have HM := Lib.hid hlt
        have HL := Lib.hid (show cnt = W.rangeLeft m w.heap.size from HW.out.1.left_eq.symm)
        have HS := Lib.hid hsm
        clear hkey hlk hv hat hrg2 hlt hg2 hs2 hC2 hst2 hbf hsm hbd ex
        have hle' := Nat.le_trans hle HU.out
        clear hle HU
        obtain ⟨n, hn⟩ : ∃ n, n = sumU L ss := ⟨_, rfl⟩
        rw [← hn] at hle' HS ⊢
        have HN := Lib.hid hn
        clear hn
        rw [ptrV_some] at hen
        go_wp2_with fail
        go_quiet (fail)
        go_wp2_with fail
        refine ⟨⟨ss ++ [f.n], _, cnt2, ?_, Lib.hid ⟨ranges_drewN HZ.out.1 _, HZ.out.2.1, HZ.out.2.2.drewN _⟩⟩, ?_⟩
        · rw [HS.out]
          congr 1
        · rw [(ranges_drewN HZ.out.1 _).left_eq, ← HL.out]
          exact HM.out

/-- The names, in a slice of new memory. -/
def NmP (w : World) (l : List (List UInt8)) (e : Ending) (w' : World) : Prop := ∃ a cap, e = .returned (.slice a l.length cap) ∧ Row w' 1 a l.length cap (l.map encStr) ∧ Step [] (blks a) w w'
theorem row_of_owns {w : World} {base n : Nat} {t : TypeId} {v : Value} {xs : List Value} (h : w.ownsRow base t 1 v n xs) : ∃ a cap, v = .slice a n cap ∧ Row w 1 a n cap xs ∧ ∀ g, g ∈ blks a → base ≤ g := by
  obtain ⟨hl, ⟨rfl, rfl⟩ | ⟨g, cap, cur, rfl, hb, hblk, h1, h2, h3, h4⟩⟩ := h
  · have : xs = [] := List.eq_nil_of_length_eq_zero (by simpa using hl)
    subst this
    exact ⟨none, 0, rfl, Row.none w 1, by simp [blks]⟩
  · refine ⟨_, cap, rfl, ⟨hl, h1, h2, (fun e => by cases e), fun ad e => ?_⟩, fun g' hg => by simp [blks] at hg; omega⟩
    injection e with e
    subst e
    exact ⟨rfl, cur, Blk.cells (t := t) hblk, by simp [h3], by simpa using h4⟩
theorem names_nil (w : World) : Calls Tryd.prog 23 #[.pointer none] w fun e w' => e = .returned (.slice none 0 0) ∧ w = w' := by
  go_enter Tryd.func23, Tryd.ntmps23
  go_wp2_with fail
  refine (down_nil w).mono ?_
  rintro e w1 ⟨rfl, rfl⟩
  go_wp2_with fail
  exact bodyPost_ret (results_tmp rfl _ _ _) rfl ⟨rfl, rfl⟩
theorem names_any (w : World) (S : List Nat) (d : Nat) (s : St) (h : Dk w S d s) (hB : StB s) : Calls Tryd.prog 23 #[.pointer (some ⟨d, 0, none⟩)] w (NmP w (namesS s)) := by
  obtain ⟨m, L, h1, h2⟩ := h
  have hlen : L.length ≤ 1099511627776 := by have := hB.len; rw [← h2] at this; simpa using this
  have c0 := h1.blk.cell 0
  simp only [List.getElem?_toArray, List.getElem?_cons_zero, List.getElem?_cons_succ] at c0
  have HB := Lib.hid (And.intro h1 h2)
  have HN := Lib.hid hlen
  clear h1 h2 hB hlen
  go_enter Tryd.func23, Tryd.ntmps23
  go_wp2_with fail
  refine (down_any w d m s.room s.fuse s.off HB.out.1.blk).mono ?_
  rintro e w1 ⟨rfl, rfl⟩
  cases ho : s.off with
  | true =>
    have HO := Lib.hid ho
    clear ho
    go_wp2_with fail
    refine bodyPost_ret (results_tmp rfl _ _ _) rfl ?_
    rw [show namesS s = [] by simp [namesS, HO.out]]
    exact ⟨none, 0, rfl, Row.none w 1, Step.refl _ _⟩
  | false =>
    have HO := Lib.hid ho
    clear ho
    go_wp2_with fail
    refine (callsIn_wide.1 (Tryd.dk_maps_Keys (some m) w)).mono ?_
    rintro e w1 ⟨rfl, rfl⟩
    go_wp2_with fail
    refine (callsIn_wide.1 (Tryd.dk_sorted_keys m L.length (dat L) ptrElem w HB.out.1.own (by rw [dat_size]; have := HN.out; unfold maxLen; omega) (by rw [dat_size]; have := HN.out; omega))).mono ?_
    rintro e w2 ⟨v, ss, rfl, hperm, hrow, hnil, hbel⟩
    have HZ := Lib.hid (And.intro hperm (And.intro hrow hbel))
    clear hperm hrow hnil hbel
    go_wp2_with fail
    refine bodyPost_ret (results_tmp rfl _ _ _) rfl ?_
    obtain ⟨hperm, hrow, hbel⟩ := HZ.out
    have hsort : ss.mergeSort leB = L.map Fil.n := by rw [mergeSort_of_perm hperm, dat_keys, ris_sorted HB.out.1.ris]
    have hnm : namesS s = L.map Fil.n := by
      simp only [namesS, HO.out, Bool.false_eq_true, if_false]
      rw [← HB.out.2, List.map_map]
      rfl
    have hll : ss.length = L.length := by rw [hperm.length_eq, dat_keys]; simp
    rw [show (ss.mergeSort fun x y => decide (x ≤ y)) = L.map Fil.n from hsort, hll] at hrow
    obtain ⟨a, cap, rfl, hr, hg⟩ := row_of_owns hrow
    rw [hnm]
    refine ⟨a, cap, by simp, by simpa using hr, ?_⟩
    have hst : Step [] [] w w2 := ((Step.refl [] w).alloc _).trans (Step.of_below hbel)
    exact hst.wide (by simp) (fun k hk => .inr (.inr (by have := hg k hk; simp at this; omega)))
end Go.Proofs.YtfkjgkgflkhbnaaDoor
