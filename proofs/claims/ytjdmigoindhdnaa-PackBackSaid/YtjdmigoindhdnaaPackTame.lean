/-
  Layer 3's statements: tame. No condition beyond what a slice is.
-/
import Derived.Test.YtjdmigoindhdnaaPackLaw
import Derived.Test.YtjdmigoindhdnaaMem2
namespace Go.Proofs.Ytjdmigoindhdnaa
open Go.RowKit
set_option linter.unusedSimpArgs false
set_option linter.unusedVariables false

def tame1 (x : It) : It := if x.k = 1 ∨ x.k = 2 then x else ⟨0, x.n, x.s, x.b⟩
def tamed (l : List It) : List It := (l.take 1000).map tame1

theorem Try.info_item : (Try.prog.info? 37).map (fun i => (i.zero, i.size, i.bytes)) = some (some (.agg #[.int .i64 0, .int .i64 0, .string ⟨#[]⟩, .bool false]), 4, 40) := by kernel_rfl

def TamePost (l : List It) (w : World) (e : Ending) (w' : World) : Prop := ∃ a c, e = .returned (.slice a (tamed l).length c) ∧ Row w' 4 a (tamed l).length c (itcs (tamed l)) ∧ Step [] (blks a) w w'

theorem itcs_take (l : List It) (k : Nat) : itcs (l.take k) = (itcs l).take (k * 4) := by
  induction l generalizing k with
  | nil => simp [itcs]
  | cons x l ih =>
    cases k with
    | zero => simp [itcs]
    | succ k =>
      have := ih k
      simp only [itcs, List.take_succ_cons, List.flatMap_cons] at this ⊢
      rw [this, show (k + 1) * 4 = (itc x).length + k * 4 by simp [itc]; omega, List.take_length_add_append]

theorem itcs_one (l : List It) : ∀ u ∈ itcs l, u.oneCell' = true := by
  intro u hu
  simp only [itcs, List.mem_flatMap] at hu
  obtain ⟨x, _, hx⟩ := hu
  simp [itc] at hx
  rcases hx with rfl | rfl | rfl | rfl <;> rfl

theorem itcs_set (l : List It) (k : Nat) (x : It) (h : l[k]? = some x) : (itcs l).set (k * 4) (.int .i64 0) = itcs (l.set k ⟨0, x.n, x.s, x.b⟩) := by
  induction l generalizing k with
  | nil => simp at h
  | cons y l ih =>
    cases k with
    | zero =>
      simp at h
      subst h
      simp [itcs, itc]
    | succ k =>
      simp at h
      have := ih k h
      simp only [itcs, List.flatMap_cons, List.set_cons_succ] at this ⊢
      rw [← this, List.set_append_right _ _ (by simp [itc]; omega)]
      congr 2
      simp [itc]
      omega

theorem tame_at (T : List It) (k : Nat) (hk : k < T.length) : ((T.take k).map tame1 ++ T.drop k)[k]? = some T[k] := by
  rw [List.getElem?_append_right (by simp; omega)]
  simp only [List.length_map, List.length_take]
  rw [show k - min k T.length = 0 by omega, List.getElem?_drop, Nat.add_zero]
  exact List.getElem?_eq_getElem hk

theorem tame_next (T : List It) (k : Nat) (hk : k < T.length) : (T.take (k + 1)).map tame1 ++ T.drop (k + 1) = ((T.take k).map tame1 ++ T.drop k).set k (tame1 T[k]) := by
  rw [List.set_append_right _ _ (by simp; omega)]
  simp only [List.length_map, List.length_take]
  rw [show k - min k T.length = 0 by omega, List.take_succ_eq_append_getElem hk, List.drop_eq_getElem_cons hk]
  simp only [List.map_append, List.map_cons, List.map_nil, List.append_assoc, List.cons_append, List.nil_append, List.set_cons_zero]

theorem set_same {α : Type} (l : List α) (k : Nat) (x : α) (h : l[k]? = some x) : l.set k x = l := by
  apply List.ext_getElem?
  intro j
  rw [List.getElem?_set]
  split
  · rename_i e
    subst e
    rw [h, if_pos (List.getElem?_eq_some_iff.1 h).1]
  · rfl

set_option maxHeartbeats 1000000 in
/-- tame where something is there. -/
theorem tame_some (l : List It) (g off : Nat) (cap m : Nat) (w : World) (hl : l.length ≤ cap) (hc : cap ≤ 9223372036854775807) (hm : m = min l.length 1000) (hp : 0 < m) (hr : Rd w 4 (some ⟨g, off, none⟩) l.length (itcs l)) :
    Calls Try.prog 9 #[.slice (some ⟨g, off, none⟩) l.length cap] w (TamePost l w) := by
  have ht : l.take m = l.take 1000 := by
    rcases Nat.le_total l.length 1000 with h | h
    · rw [List.take_of_length_le (by omega), List.take_of_length_le h]
    · rw [hm, Nat.min_eq_right h]
  have hts : Hid ((l.take m).length = m) := by show (l.take m).length = m; rw [List.length_take]; omega
  have hT := Lib.hid ht
  have HR := hr.take m (by omega)
  rw [← itcs_take] at HR
  clear hr ht
  have HS : ∀ (n : Nat), Hid (n = m → Src Try.prog (w.alloc (.cells #[] 37)) 4 22 (.slice (some ⟨g, off, none⟩) n cap) m (itcs (l.take m))) := by
    intro n hn
    subst hn
    exact Src.rd 22 37 Try.underlying22 (HR.alloc _) (itcs_one _)
  have hl1 : Hid (l.length ≤ 1000 → l.length = m) := by intro h; omega
  have hl2 : Hid (1000 < l.length → 1000 = m) := by intro h; omega
  clear HR
  obtain ⟨i0, hi, hz0, hz1, hz2⟩ := info_parts Try.info_item
  have HI := Lib.hid (And.intro hi (And.intro hz0 (And.intro hz1 hz2)))
  clear hi hz0 hz1 hz2
  have hm2 : m ≤ 1000 := by omega
  clear hm
  go_enter Try.func9, Try.ntmps9
  rcases Nat.lt_or_ge 1000 l.length with h1 | h1
  · go_wp2_with (at_builtin; refine wpList_append_some rfl (.tmp 5) (.tmp 10) 22 22 rfl 37 i0 _ 4 40 Try.underlying22 HI.out.1 HI.out.2.1 HI.out.2.2.1 HI.out.2.2.2 rfl rfl (Row.empty w _ 4) rfl ((HS 1000).out (hl2.out h1)) (by unfold maxLen; omega) (by omega) (by omega) (by omega) ?_; intro g' off' c' w1 hr1 hst1)
    generalize l.take m = T at *
    go_loopw [14] (fun i wr => ∃ k : Nat, k ≤ m ∧ i = .int .i64 k ∧ Hid (Row wr 4 (some ⟨g', off', none⟩) m c' (itcs ((T.take k).map tame1 ++ T.drop k)) ∧ Step [] [g'] w wr))
      (fun i _ => m - (intOf i).toNat)
    case atStart => exact ⟨0, by omega, rfl, by simpa using hr1, (((Step.refl [] w).hold _).trans hst1).drop (by simp)⟩
    case round =>
      obtain ⟨k, hk, rfl, H⟩ := hrel
      by_cases hlt : k < m
      · obtain ⟨hrow, hst⟩ := H.out
        have hkT : k < T.length := by have := hts.out; omega
        have hx2 := tame_at T k hkT
        have hnew := tame_next T k hkT
        obtain ⟨c0, c1, c2, c3⟩ := rd_item hrow.rd hx2
        have f0 := (hrow.cell rfl (k * 4) (by omega)).2.1
        generalize hTk : T[k] = x at *
        have HX := Lib.hid (And.intro hx2 (And.intro hnew (And.intro hrow hst)))
        clear hx2 hnew hrow hst H hTk hkT
        by_cases hkk : x.k = 1 ∨ x.k = 2
        · have hset : Hid ((T.take (k + 1)).map tame1 ++ T.drop (k + 1) = (T.take k).map tame1 ++ T.drop k) := by
            show _ = _
            rw [HX.out.2.1, show tame1 x = x by simp [tame1, hkk], set_same _ _ _ HX.out.1]
          rcases hkk with h | h
          · have e1 : (x.k == 1) = true := by simpa using h
            have e1' : (x.k != 1) = false := by simp [h]
            clear h
            go_wp2_with fail
            go_roundw
            case rel => exact ⟨k + 1, by omega, by go_num, by rw [hset.out]; exact HX.out.2.2.1, HX.out.2.2.2⟩
            case measure => simp [intOf]; omega
          · have e1 : (x.k == 1) = false := by simp [h]
            have e1' : (x.k != 1) = true := by simp [h]
            have e2 : (x.k == 2) = true := by simp [h]
            have e2' : (x.k != 2) = false := by simp [h]
            clear h
            go_wp2_with fail
            go_roundw
            case rel => exact ⟨k + 1, by omega, by go_num, by rw [hset.out]; exact HX.out.2.2.1, HX.out.2.2.2⟩
            case measure => simp [intOf]; omega
        · have e1 : (x.k == 1) = false := by simp; omega
          have e1' : (x.k != 1) = true := by simp; omega
          have e2 : (x.k == 2) = false := by simp; omega
          have e2' : (x.k != 2) = true := by simp; omega
          have ht1 : Hid (tame1 x = ⟨0, x.n, x.s, x.b⟩) := by show tame1 x = _; simp [tame1, hkk]
          clear hkk
          go_wp2_with fail
          go_roundw
          case rel =>
            refine ⟨k + 1, by omega, by go_num, ?_, HX.out.2.2.2.setCell (.inl (by simp)) _⟩
            rw [HX.out.2.1, ht1.out, ← itcs_set _ _ _ HX.out.1]
            exact HX.out.2.2.1.set rfl (k * 4) (by omega) _
          case measure => simp [intOf]; omega
      · have hkl := Lib.hid (show k = m by omega)
        go_wp2_with fail
        go_ret
        obtain ⟨hrow, hst⟩ := H.out
        rw [hkl.out] at hrow
        have hTl := hts.out
        have e : (T.take m).map tame1 ++ T.drop m = tamed l := by
          rw [List.take_of_length_le (by omega), List.drop_eq_nil_of_le (by omega), List.append_nil, tamed, ← hT.out]
        rw [e] at hrow
        have e2 : (tamed l).length = m := by rw [tamed, ← hT.out]; simpa using hTl
        unfold TamePost
        rw [e2]
        exact ⟨some ⟨g', off', none⟩, c', rfl, hrow, hst⟩
  · go_wp2_with (at_builtin; refine wpList_append_some rfl (.tmp 5) (.tmp 10) 22 22 rfl 37 i0 _ 4 40 Try.underlying22 HI.out.1 HI.out.2.1 HI.out.2.2.1 HI.out.2.2.2 rfl rfl (Row.empty w _ 4) rfl ((HS l.length).out (hl1.out h1)) (by unfold maxLen; omega) (by omega) (by omega) (by omega) ?_; intro g' off' c' w1 hr1 hst1)
    generalize l.take m = T at *
    go_loopw [14] (fun i wr => ∃ k : Nat, k ≤ m ∧ i = .int .i64 k ∧ Hid (Row wr 4 (some ⟨g', off', none⟩) m c' (itcs ((T.take k).map tame1 ++ T.drop k)) ∧ Step [] [g'] w wr))
      (fun i _ => m - (intOf i).toNat)
    case atStart => exact ⟨0, by omega, rfl, by simpa using hr1, (((Step.refl [] w).hold _).trans hst1).drop (by simp)⟩
    case round =>
      obtain ⟨k, hk, rfl, H⟩ := hrel
      by_cases hlt : k < m
      · obtain ⟨hrow, hst⟩ := H.out
        have hkT : k < T.length := by have := hts.out; omega
        have hx2 := tame_at T k hkT
        have hnew := tame_next T k hkT
        obtain ⟨c0, c1, c2, c3⟩ := rd_item hrow.rd hx2
        have f0 := (hrow.cell rfl (k * 4) (by omega)).2.1
        generalize hTk : T[k] = x at *
        have HX := Lib.hid (And.intro hx2 (And.intro hnew (And.intro hrow hst)))
        clear hx2 hnew hrow hst H hTk hkT
        by_cases hkk : x.k = 1 ∨ x.k = 2
        · have hset : Hid ((T.take (k + 1)).map tame1 ++ T.drop (k + 1) = (T.take k).map tame1 ++ T.drop k) := by
            show _ = _
            rw [HX.out.2.1, show tame1 x = x by simp [tame1, hkk], set_same _ _ _ HX.out.1]
          rcases hkk with h | h
          · have e1 : (x.k == 1) = true := by simpa using h
            have e1' : (x.k != 1) = false := by simp [h]
            clear h
            go_wp2_with fail
            go_roundw
            case rel => exact ⟨k + 1, by omega, by go_num, by rw [hset.out]; exact HX.out.2.2.1, HX.out.2.2.2⟩
            case measure => simp [intOf]; omega
          · have e1 : (x.k == 1) = false := by simp [h]
            have e1' : (x.k != 1) = true := by simp [h]
            have e2 : (x.k == 2) = true := by simp [h]
            have e2' : (x.k != 2) = false := by simp [h]
            clear h
            go_wp2_with fail
            go_roundw
            case rel => exact ⟨k + 1, by omega, by go_num, by rw [hset.out]; exact HX.out.2.2.1, HX.out.2.2.2⟩
            case measure => simp [intOf]; omega
        · have e1 : (x.k == 1) = false := by simp; omega
          have e1' : (x.k != 1) = true := by simp; omega
          have e2 : (x.k == 2) = false := by simp; omega
          have e2' : (x.k != 2) = true := by simp; omega
          have ht1 : Hid (tame1 x = ⟨0, x.n, x.s, x.b⟩) := by show tame1 x = _; simp [tame1, hkk]
          clear hkk
          go_wp2_with fail
          go_roundw
          case rel =>
            refine ⟨k + 1, by omega, by go_num, ?_, HX.out.2.2.2.setCell (.inl (by simp)) _⟩
            rw [HX.out.2.1, ht1.out, ← itcs_set _ _ _ HX.out.1]
            exact HX.out.2.2.1.set rfl (k * 4) (by omega) _
          case measure => simp [intOf]; omega
      · have hkl := Lib.hid (show k = m by omega)
        go_wp2_with fail
        go_ret
        obtain ⟨hrow, hst⟩ := H.out
        rw [hkl.out] at hrow
        have hTl := hts.out
        have e : (T.take m).map tame1 ++ T.drop m = tamed l := by
          rw [List.take_of_length_le (by omega), List.drop_eq_nil_of_le (by omega), List.append_nil, tamed, ← hT.out]
        rw [e] at hrow
        have e2 : (tamed l).length = m := by rw [tamed, ← hT.out]; simpa using hTl
        unfold TamePost
        rw [e2]
        exact ⟨some ⟨g', off', none⟩, c', rfl, hrow, hst⟩

set_option maxHeartbeats 1000000 in
theorem tame_any (l : List It) (a : Option Addr) (cap : Nat) (w : World) (hl : l.length ≤ cap) (hc : cap ≤ 9223372036854775807) (hr : Rd w 4 a l.length (itcs l)) :
    Calls Try.prog 9 #[.slice a l.length cap] w (TamePost l w) := by
  rcases Nat.eq_zero_or_pos l.length with h | h
  · have hn : l = [] := List.eq_nil_of_length_eq_zero h
    subst hn
    obtain ⟨i0, hi, hz0, hz1, hz2⟩ := info_parts Try.info_item
    have HI := Lib.hid (And.intro hi (And.intro hz0 (And.intro hz1 hz2)))
    clear hi hz0 hz1 hz2
    have HR := Lib.hid hr
    clear hr
    go_enter Try.func9, Try.ntmps9
    go_wp2_with (at_builtin; refine wpList_append_row rfl (.tmp 5) (.tmp 10) 22 22 rfl 37 i0 _ 4 40 Try.underlying22 HI.out.1 HI.out.2.1 HI.out.2.2.1 HI.out.2.2.2 rfl rfl (Row.empty w _ 4) rfl (Src.rd (n := 0) 22 37 Try.underlying22 (HR.out.alloc _) (itcs_one _)) (by unfold maxLen; omega) (by omega) (by omega) ?_; intro a' c' w1 hr1 hst1)
    refine wp_loop_rounds 1 ?_
    rw [rounds_succ]
    go_wp2_with fail
    go_ret
    exact ⟨a', c', rfl, hr1, (((Step.refl [] w).hold _).trans hst1).drop (by simp)⟩
  · obtain ⟨g, off, he⟩ := hr.some_ h
    subst he
    exact tame_some l g off cap (min l.length 1000) w hl hc rfl (by omega) hr
end Go.Proofs.Ytjdmigoindhdnaa
