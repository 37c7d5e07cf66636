/-
  The reference's Bytes, of a right flat form. Condition: at most 2^42 entries.
-/
import Derived.Test.YtihklmomipidaaaMsgM
import Derived.Test.YtihklmomipidaaaMsgPlain2
import Derived.Test.YtihklmomipidaaaPackTame
import Derived.Test.YtihklmomipidaaaMem4
namespace Go.Proofs.Ytihklmomipidaaa
open Go.RowKit
set_option linter.unusedSimpArgs false
set_option linter.unusedVariables false
set_option maxRecDepth 100000

theorem row_blk {w : World} {g : Nat} {t : TypeId} {xs : List Value} (h : Blk w g t xs.toArray) (sz n : Nat) (hl : xs.length = n * sz) (hm : n ≤ maxLen) : Row w sz (some ⟨g, 0, none⟩) n n xs :=
  ⟨hl, Nat.le_refl _, hm, (fun e => by cases e), fun ad e => by
    injection e with e
    subst e
    exact ⟨rfl, xs.toArray, h.cells, by simp [hl], by simp [← hl]⟩⟩
theorem its_tame (y : Rw) (hk : isKind y.kind = true) (hr : rightR y = true) : ∀ i ∈ msgIts y, i.tame := by
  intro i hi
  have h := (its_ok y hk hr).1 i hi
  simp only [itOk, Bool.and_eq_true, decide_eq_true_eq] at h
  exact h.1
theorem its_small (y : Rw) (hk : isKind y.kind = true) (hr : rightR y = true) : ∀ i ∈ msgIts y, i.ok := by
  intro i hi
  obtain ⟨b1, b2, b3, b4, b5, b6, b7, b8, b9⟩ := right_small hr
  have hkb : y.kind < 9223372036854775808 := by simp [isKind] at hk; omega
  have hE : ∀ i ∈ entIts y.es, i.ok := by
    intro i hi
    simp only [entIts, List.mem_flatMap] at hi
    obtain ⟨e, he, hi⟩ := hi
    have := b9 e he
    simp at hi
    rcases hi with rfl | rfl
    · simp [It.ok, nIt]; omega
    · simp [It.ok, tIt]; omega
  have hN : ∀ n : Int, n < 9223372036854775808 → (nIt n).ok := fun n h => by simp [It.ok, nIt]; omega
  have hF : ∀ b : Bool, (fIt b).ok := fun b => by simp [It.ok, fIt]
  have hT : (tIt y.data).ok := by simp [It.ok, tIt]; omega
  simp only [msgIts] at hi
  rcases List.mem_append.1 hi with hi | hi
  · simp at hi
    rcases hi with rfl | rfl | rfl
    · exact hN _ hkb
    · exact hN _ (by omega)
    · exact hN _ (by omega)
  · split at hi
    · simp at hi
      rcases hi with rfl | rfl
      · exact hN _ (by omega)
      · exact hN _ (by omega)
    · split at hi
      · simp at hi
        rcases hi with rfl
        exact hF _
      · split at hi
        · rcases List.mem_append.1 hi with hi | hi
          · simp at hi
            rcases hi with rfl | rfl | rfl | rfl | rfl
            · exact hN _ (by omega)
            · exact hN _ (by omega)
            · exact hN _ (by omega)
            · exact hN _ (by omega)
            · exact hN _ (by omega)
          · exact hE i hi
        · split at hi
          · simp at hi
            rcases hi with rfl | rfl | rfl
            · exact hN _ (by omega)
            · exact hN _ (by omega)
            · exact hF _
          · split at hi
            · simp at hi
              rcases hi with rfl | rfl | rfl | rfl
              · exact hN _ (by omega)
              · exact hN _ (by omega)
              · exact hN _ (by omega)
              · exact hT
            · cases hi
theorem written_right (y : Rw) (hk : isKind y.kind = true) (hr : rightR y = true) : written [] (msgIts y) = (msgB y, 0) := by
  rw [← fold_written _ _ (its_tame y hk hr)]
  show wbytes (encW y) = _
  rw [encW_ok y hk hr]
  rfl
theorem entIts_take (l : List Ent) (k : Nat) (e : Ent) (h : l[k]? = some e) : entIts (l.take (k + 1)) = entIts (l.take k) ++ [nIt e.term, tIt e.data] := by
  simp [entIts, List.take_add_one, h]
theorem entIts_len (l : List Ent) : (entIts l).length = 2 * l.length := by
  induction l with
  | nil => rfl
  | cons e l ih => simp [entIts] at ih ⊢; omega
theorem itcs_app (l m : List It) : itcs (l ++ m) = itcs l ++ itcs m := by simp [itcs]

set_option maxHeartbeats 4000000 in
theorem refBy1_any (x : Rw) (a : Option Addr) (cap : Nat) (w : World) (hk : x.kind = 1) (hr : rightR (cleanL x) = true) (hrd : Rd w 3 a x.es.length (entcs x.es)) : Calls Try.prog 17 #[rwV x (.slice a x.es.length cap)] w fun e w' => e = .returned (Str (msgB (cleanL x))) ∧ Step [] [] w w' := by
  have HK := Lib.hid (And.intro hk (And.intro hr hrd))
  have k1 : (x.kind == 1) = true := by rw [hk]; rfl
  have k2 : (x.kind == 2) = false := by rw [hk]; rfl
  have k3 : (x.kind == 3) = false := by rw [hk]; rfl
  have k4 : (x.kind == 4) = false := by rw [hk]; rfl
  have k5 : (x.kind == 5) = false := by rw [hk]; rfl
  have H0 : Hid (Blk (w.alloc (.cells (rwc x (.slice a x.es.length cap)).toArray 24)) w.heap.size 24 (rwc x (.slice a x.es.length cap)).toArray ∧ Step [] [] w (w.alloc (.cells (rwc x (.slice a x.es.length cap)).toArray 24))) := ⟨Blk.new w _ _, (Step.refl [] w).alloc _⟩
  clear hk hr hrd
  go_enter Try.func17, Try.ntmps17
  go_upto_region 1 with fail
  obtain ⟨b, hb⟩ : ∃ b, b = w.heap.size := ⟨_, rfl⟩
  obtain ⟨V, hV⟩ : ∃ V, V = w.alloc (.cells (rwc x (.slice a x.es.length cap)).toArray 24) := ⟨_, rfl⟩
  rw [← hV, ← hb] at H0
  rw [show w.alloc (.cells #[.int .i64 x.kind, .int .i64 x.src, .int .i64 x.term, .int .i64 x.index, .int .i64 x.last, .int .i64 x.commit, .int .i64 x.round, .bool x.yes, .slice a x.es.length cap, .string ⟨x.data.toArray⟩] 24) = V from hV.symm, ← hb]
  clear hV hb
  have ra := H0.out.1.rw
  have rl := H0.out.1.lt
  go_upto_region 2 with fail
  obtain ⟨g, hg⟩ : ∃ g, g = V.heap.size := ⟨_, rfl⟩
  obtain ⟨V1, hV1⟩ : ∃ V1, V1 = V.alloc (.cells #[.int .i64 0, .int .i64 x.kind, .string ⟨#[]⟩, .bool false, .int .i64 0, .int .i64 x.src, .string ⟨#[]⟩, .bool false, .int .i64 0, .int .i64 x.term, .string ⟨#[]⟩, .bool false] 81) := ⟨_, rfl⟩
  have H1 : Hid (Blk V1 b 24 (rwc x (.slice a x.es.length cap)).toArray ∧ Step [] [g] w V1 ∧ Row V1 4 (some ⟨g, 0, none⟩) 3 3 (itcs [nIt x.kind, nIt x.src, nIt x.term]) ∧ b ≠ g) := by
    rw [hV1, hg]
    have B := Blk.new V 81 (itcs [nIt x.kind, nIt x.src, nIt x.term]).toArray
    exact ⟨H0.out.1.alloc _, (H0.out.2.hold _).drop (by simp), row_blk B 4 3 rfl (by unfold maxLen; omega), by have := H0.out.1.lt; omega⟩
  rw [← hV1, ← hg]
  clear hV1 hg ra rl H0
  have ra := H1.out.1.rw
  have rl := H1.out.1.lt
  obtain ⟨i0, hi, hz0, hz1, hz2⟩ := info_parts Try.info_item
  have HI := Lib.hid (And.intro hi (And.intro hz0 (And.intro hz1 hz2)))
  clear hi hz0 hz1 hz2
  obtain ⟨g2, hg2⟩ : ∃ g2, g2 = V1.heap.size := ⟨_, rfl⟩
  obtain ⟨V2, hV2⟩ : ∃ V2, V2 = V1.alloc (.cells #[.int .i64 0, .int .i64 x.index, .string ⟨#[]⟩, .bool false, .int .i64 0, .int .i64 x.last, .string ⟨#[]⟩, .bool false] 81) := ⟨_, rfl⟩
  have H2 : Hid (Blk V2 b 24 (rwc x (.slice a x.es.length cap)).toArray ∧ Step [] [g] w V2 ∧ Row V2 4 (some ⟨g, 0, none⟩) 3 3 (itcs [nIt x.kind, nIt x.src, nIt x.term]) ∧ b ≠ g ∧ Rd V2 4 (some ⟨g2, 0, none⟩) 2 (itcs [nIt x.index, nIt x.last])) := by
    rw [hV2, hg2]
    have B := Blk.new V1 81 (itcs [nIt x.index, nIt x.last]).toArray
    exact ⟨H1.out.1.alloc _, H1.out.2.1.alloc _, H1.out.2.2.1.alloc _, H1.out.2.2.2, rd_blk B 4 2 rfl⟩
  have HV2 := Lib.hid hV2
  have HG2 := Lib.hid hg2
  clear hV2 hg2
  go_upto_region 17 with (at_builtin; rw [show V1.heap.size = g2 from HG2.out.symm, show V1.alloc (.cells #[.int .i64 0, .int .i64 x.index, .string ⟨#[]⟩, .bool false, .int .i64 0, .int .i64 x.last, .string ⟨#[]⟩, .bool false] 81) = V2 from HV2.out.symm]; refine wpList_append_row rfl (.tmp 21) (.tmp 28) 82 82 rfl 81 i0 _ 4 40 Try.underlying82 HI.out.1 HI.out.2.1 HI.out.2.2.1 HI.out.2.2.2 rfl rfl H2.out.2.2.1 rfl (Src.rd 82 81 Try.underlying82 H2.out.2.2.2.2 (itcs_one _)) (by unfold maxLen; omega) (by omega) (by omega) ?_; intro a9 cap9 w9 hr9 st9; rw [← itcs_app] at hr9; have H9 : Hid (Blk w9 b 24 (rwc x (.slice a x.es.length cap)).toArray ∧ Step [] (blks a9) w w9 ∧ Row w9 4 a9 5 cap9 (itcs ([nIt x.kind, nIt x.src, nIt x.term] ++ [nIt x.index, nIt x.last])) ∧ b ∉ blks a9) := ⟨H2.out.1.step st9 (by simpa [blks] using H2.out.2.2.2.1), H2.out.2.1.trans st9, hr9, st9.notin H2.out.1.lt (by simpa [blks] using H2.out.2.2.2.1)⟩; clear hr9 st9 ra rl)
  have HIT : Hid (([nIt x.kind, nIt x.src, nIt x.term] ++ [nIt x.index, nIt x.last]) = msgIts (cleanL x)) := Lib.hid (by simp [msgIts, cleanL, HK.out.1])
  have HCK : Hid (isKind (cleanL x).kind = true) := Lib.hid (by simp [cleanL, HK.out.1, isKind])
  have HLN : Hid (([nIt x.kind, nIt x.src, nIt x.term] ++ [nIt x.index, nIt x.last]).length = 5) := Lib.hid (by rfl)
  obtain ⟨its, hits⟩ : ∃ its, its = ([nIt x.kind, nIt x.src, nIt x.term] ++ [nIt x.index, nIt x.last]) := ⟨_, rfl⟩
  rw [← hits] at HIT HLN
  have H10 : Hid (Rd w9 4 a9 its.length (itcs its)) := Lib.hid (by rw [HLN.out, hits]; exact H9.out.2.2.1.rd)
  clear hits
  have HW := written_any its a9 cap9 w9 (by rw [HLN.out]; omega) H10.out (by rw [HIT.out]; exact its_small _ HCK.out HK.out.2.1)
  rw [HLN.out] at HW
  go_wp2_with fail
  refine HW.mono ?_
  rintro e X1 ⟨rfl, k1⟩
  rw [HIT.out, written_right _ HCK.out HK.out.2.1]
  have HX := Lib.hid ((H9.out.2.1.drop (S'' := []) (by simp)).trans k1)
  clear k1 HW
  go_wp2_with fail
  exact bodyPost_ret (results_tmp rfl _ _ _) rfl ⟨rfl, HX.out⟩

set_option maxHeartbeats 4000000 in
theorem refBy2_any (x : Rw) (a : Option Addr) (cap : Nat) (w : World) (hk : x.kind = 2) (hr : rightR (cleanL x) = true) (hrd : Rd w 3 a x.es.length (entcs x.es)) : Calls Try.prog 17 #[rwV x (.slice a x.es.length cap)] w fun e w' => e = .returned (Str (msgB (cleanL x))) ∧ Step [] [] w w' := by
  have HK := Lib.hid (And.intro hk (And.intro hr hrd))
  have k1 : (x.kind == 1) = false := by rw [hk]; rfl
  have k2 : (x.kind == 2) = true := by rw [hk]; rfl
  have k3 : (x.kind == 3) = false := by rw [hk]; rfl
  have k4 : (x.kind == 4) = false := by rw [hk]; rfl
  have k5 : (x.kind == 5) = false := by rw [hk]; rfl
  have H0 : Hid (Blk (w.alloc (.cells (rwc x (.slice a x.es.length cap)).toArray 24)) w.heap.size 24 (rwc x (.slice a x.es.length cap)).toArray ∧ Step [] [] w (w.alloc (.cells (rwc x (.slice a x.es.length cap)).toArray 24))) := ⟨Blk.new w _ _, (Step.refl [] w).alloc _⟩
  clear hk hr hrd
  go_enter Try.func17, Try.ntmps17
  go_upto_region 1 with fail
  obtain ⟨b, hb⟩ : ∃ b, b = w.heap.size := ⟨_, rfl⟩
  obtain ⟨V, hV⟩ : ∃ V, V = w.alloc (.cells (rwc x (.slice a x.es.length cap)).toArray 24) := ⟨_, rfl⟩
  rw [← hV, ← hb] at H0
  rw [show w.alloc (.cells #[.int .i64 x.kind, .int .i64 x.src, .int .i64 x.term, .int .i64 x.index, .int .i64 x.last, .int .i64 x.commit, .int .i64 x.round, .bool x.yes, .slice a x.es.length cap, .string ⟨x.data.toArray⟩] 24) = V from hV.symm, ← hb]
  clear hV hb
  have ra := H0.out.1.rw
  have rl := H0.out.1.lt
  go_upto_region 2 with fail
  obtain ⟨g, hg⟩ : ∃ g, g = V.heap.size := ⟨_, rfl⟩
  obtain ⟨V1, hV1⟩ : ∃ V1, V1 = V.alloc (.cells #[.int .i64 0, .int .i64 x.kind, .string ⟨#[]⟩, .bool false, .int .i64 0, .int .i64 x.src, .string ⟨#[]⟩, .bool false, .int .i64 0, .int .i64 x.term, .string ⟨#[]⟩, .bool false] 81) := ⟨_, rfl⟩
  have H1 : Hid (Blk V1 b 24 (rwc x (.slice a x.es.length cap)).toArray ∧ Step [] [g] w V1 ∧ Row V1 4 (some ⟨g, 0, none⟩) 3 3 (itcs [nIt x.kind, nIt x.src, nIt x.term]) ∧ b ≠ g) := by
    rw [hV1, hg]
    have B := Blk.new V 81 (itcs [nIt x.kind, nIt x.src, nIt x.term]).toArray
    exact ⟨H0.out.1.alloc _, (H0.out.2.hold _).drop (by simp), row_blk B 4 3 rfl (by unfold maxLen; omega), by have := H0.out.1.lt; omega⟩
  rw [← hV1, ← hg]
  clear hV1 hg ra rl H0
  have ra := H1.out.1.rw
  have rl := H1.out.1.lt
  obtain ⟨i0, hi, hz0, hz1, hz2⟩ := info_parts Try.info_item
  have HI := Lib.hid (And.intro hi (And.intro hz0 (And.intro hz1 hz2)))
  clear hi hz0 hz1 hz2
  obtain ⟨g2, hg2⟩ : ∃ g2, g2 = V1.heap.size := ⟨_, rfl⟩
  obtain ⟨V2, hV2⟩ : ∃ V2, V2 = V1.alloc (.cells #[.int .i64 2, .int .i64 0, .string ⟨#[]⟩, .bool x.yes] 81) := ⟨_, rfl⟩
  have H2 : Hid (Blk V2 b 24 (rwc x (.slice a x.es.length cap)).toArray ∧ Step [] [g] w V2 ∧ Row V2 4 (some ⟨g, 0, none⟩) 3 3 (itcs [nIt x.kind, nIt x.src, nIt x.term]) ∧ b ≠ g ∧ Rd V2 4 (some ⟨g2, 0, none⟩) 1 (itcs [fIt x.yes])) := by
    rw [hV2, hg2]
    have B := Blk.new V1 81 (itcs [fIt x.yes]).toArray
    exact ⟨H1.out.1.alloc _, H1.out.2.1.alloc _, H1.out.2.2.1.alloc _, H1.out.2.2.2, rd_blk B 4 1 rfl⟩
  have HV2 := Lib.hid hV2
  have HG2 := Lib.hid hg2
  clear hV2 hg2
  go_upto_region 17 with (at_builtin; rw [show V1.heap.size = g2 from HG2.out.symm, show V1.alloc (.cells #[.int .i64 2, .int .i64 0, .string ⟨#[]⟩, .bool x.yes] 81) = V2 from HV2.out.symm]; refine wpList_append_row rfl (.tmp 32) (.tmp 36) 82 82 rfl 81 i0 _ 4 40 Try.underlying82 HI.out.1 HI.out.2.1 HI.out.2.2.1 HI.out.2.2.2 rfl rfl H2.out.2.2.1 rfl (Src.rd 82 81 Try.underlying82 H2.out.2.2.2.2 (itcs_one _)) (by unfold maxLen; omega) (by omega) (by omega) ?_; intro a9 cap9 w9 hr9 st9; rw [← itcs_app] at hr9; have H9 : Hid (Blk w9 b 24 (rwc x (.slice a x.es.length cap)).toArray ∧ Step [] (blks a9) w w9 ∧ Row w9 4 a9 4 cap9 (itcs ([nIt x.kind, nIt x.src, nIt x.term] ++ [fIt x.yes])) ∧ b ∉ blks a9) := ⟨H2.out.1.step st9 (by simpa [blks] using H2.out.2.2.2.1), H2.out.2.1.trans st9, hr9, st9.notin H2.out.1.lt (by simpa [blks] using H2.out.2.2.2.1)⟩; clear hr9 st9 ra rl)
  have HIT : Hid (([nIt x.kind, nIt x.src, nIt x.term] ++ [fIt x.yes]) = msgIts (cleanL x)) := Lib.hid (by simp [msgIts, cleanL, HK.out.1])
  have HCK : Hid (isKind (cleanL x).kind = true) := Lib.hid (by simp [cleanL, HK.out.1, isKind])
  have HLN : Hid (([nIt x.kind, nIt x.src, nIt x.term] ++ [fIt x.yes]).length = 4) := Lib.hid (by rfl)
  obtain ⟨its, hits⟩ : ∃ its, its = ([nIt x.kind, nIt x.src, nIt x.term] ++ [fIt x.yes]) := ⟨_, rfl⟩
  rw [← hits] at HIT HLN
  have H10 : Hid (Rd w9 4 a9 its.length (itcs its)) := Lib.hid (by rw [HLN.out, hits]; exact H9.out.2.2.1.rd)
  clear hits
  have HW := written_any its a9 cap9 w9 (by rw [HLN.out]; omega) H10.out (by rw [HIT.out]; exact its_small _ HCK.out HK.out.2.1)
  rw [HLN.out] at HW
  go_wp2_with fail
  refine HW.mono ?_
  rintro e X1 ⟨rfl, k1⟩
  rw [HIT.out, written_right _ HCK.out HK.out.2.1]
  have HX := Lib.hid ((H9.out.2.1.drop (S'' := []) (by simp)).trans k1)
  clear k1 HW
  go_wp2_with fail
  exact bodyPost_ret (results_tmp rfl _ _ _) rfl ⟨rfl, HX.out⟩

set_option maxHeartbeats 4000000 in
theorem refBy4_any (x : Rw) (a : Option Addr) (cap : Nat) (w : World) (hk : x.kind = 4) (hr : rightR (cleanL x) = true) (hrd : Rd w 3 a x.es.length (entcs x.es)) : Calls Try.prog 17 #[rwV x (.slice a x.es.length cap)] w fun e w' => e = .returned (Str (msgB (cleanL x))) ∧ Step [] [] w w' := by
  have HK := Lib.hid (And.intro hk (And.intro hr hrd))
  have k1 : (x.kind == 1) = false := by rw [hk]; rfl
  have k2 : (x.kind == 2) = false := by rw [hk]; rfl
  have k3 : (x.kind == 3) = false := by rw [hk]; rfl
  have k4 : (x.kind == 4) = true := by rw [hk]; rfl
  have k5 : (x.kind == 5) = false := by rw [hk]; rfl
  have H0 : Hid (Blk (w.alloc (.cells (rwc x (.slice a x.es.length cap)).toArray 24)) w.heap.size 24 (rwc x (.slice a x.es.length cap)).toArray ∧ Step [] [] w (w.alloc (.cells (rwc x (.slice a x.es.length cap)).toArray 24))) := ⟨Blk.new w _ _, (Step.refl [] w).alloc _⟩
  clear hk hr hrd
  go_enter Try.func17, Try.ntmps17
  go_upto_region 1 with fail
  obtain ⟨b, hb⟩ : ∃ b, b = w.heap.size := ⟨_, rfl⟩
  obtain ⟨V, hV⟩ : ∃ V, V = w.alloc (.cells (rwc x (.slice a x.es.length cap)).toArray 24) := ⟨_, rfl⟩
  rw [← hV, ← hb] at H0
  rw [show w.alloc (.cells #[.int .i64 x.kind, .int .i64 x.src, .int .i64 x.term, .int .i64 x.index, .int .i64 x.last, .int .i64 x.commit, .int .i64 x.round, .bool x.yes, .slice a x.es.length cap, .string ⟨x.data.toArray⟩] 24) = V from hV.symm, ← hb]
  clear hV hb
  have ra := H0.out.1.rw
  have rl := H0.out.1.lt
  go_upto_region 2 with fail
  obtain ⟨g, hg⟩ : ∃ g, g = V.heap.size := ⟨_, rfl⟩
  obtain ⟨V1, hV1⟩ : ∃ V1, V1 = V.alloc (.cells #[.int .i64 0, .int .i64 x.kind, .string ⟨#[]⟩, .bool false, .int .i64 0, .int .i64 x.src, .string ⟨#[]⟩, .bool false, .int .i64 0, .int .i64 x.term, .string ⟨#[]⟩, .bool false] 81) := ⟨_, rfl⟩
  have H1 : Hid (Blk V1 b 24 (rwc x (.slice a x.es.length cap)).toArray ∧ Step [] [g] w V1 ∧ Row V1 4 (some ⟨g, 0, none⟩) 3 3 (itcs [nIt x.kind, nIt x.src, nIt x.term]) ∧ b ≠ g) := by
    rw [hV1, hg]
    have B := Blk.new V 81 (itcs [nIt x.kind, nIt x.src, nIt x.term]).toArray
    exact ⟨H0.out.1.alloc _, (H0.out.2.hold _).drop (by simp), row_blk B 4 3 rfl (by unfold maxLen; omega), by have := H0.out.1.lt; omega⟩
  rw [← hV1, ← hg]
  clear hV1 hg ra rl H0
  have ra := H1.out.1.rw
  have rl := H1.out.1.lt
  obtain ⟨i0, hi, hz0, hz1, hz2⟩ := info_parts Try.info_item
  have HI := Lib.hid (And.intro hi (And.intro hz0 (And.intro hz1 hz2)))
  clear hi hz0 hz1 hz2
  obtain ⟨g2, hg2⟩ : ∃ g2, g2 = V1.heap.size := ⟨_, rfl⟩
  obtain ⟨V2, hV2⟩ : ∃ V2, V2 = V1.alloc (.cells #[.int .i64 0, .int .i64 x.index, .string ⟨#[]⟩, .bool false, .int .i64 0, .int .i64 x.round, .string ⟨#[]⟩, .bool false, .int .i64 2, .int .i64 0, .string ⟨#[]⟩, .bool x.yes] 81) := ⟨_, rfl⟩
  have H2 : Hid (Blk V2 b 24 (rwc x (.slice a x.es.length cap)).toArray ∧ Step [] [g] w V2 ∧ Row V2 4 (some ⟨g, 0, none⟩) 3 3 (itcs [nIt x.kind, nIt x.src, nIt x.term]) ∧ b ≠ g ∧ Rd V2 4 (some ⟨g2, 0, none⟩) 3 (itcs [nIt x.index, nIt x.round, fIt x.yes])) := by
    rw [hV2, hg2]
    have B := Blk.new V1 81 (itcs [nIt x.index, nIt x.round, fIt x.yes]).toArray
    exact ⟨H1.out.1.alloc _, H1.out.2.1.alloc _, H1.out.2.2.1.alloc _, H1.out.2.2.2, rd_blk B 4 3 rfl⟩
  have HV2 := Lib.hid hV2
  have HG2 := Lib.hid hg2
  clear hV2 hg2
  go_upto_region 17 with (at_builtin; rw [show V1.heap.size = g2 from HG2.out.symm, show V1.alloc (.cells #[.int .i64 0, .int .i64 x.index, .string ⟨#[]⟩, .bool false, .int .i64 0, .int .i64 x.round, .string ⟨#[]⟩, .bool false, .int .i64 2, .int .i64 0, .string ⟨#[]⟩, .bool x.yes] 81) = V2 from HV2.out.symm]; refine wpList_append_row rfl (.tmp 85) (.tmp 95) 82 82 rfl 81 i0 _ 4 40 Try.underlying82 HI.out.1 HI.out.2.1 HI.out.2.2.1 HI.out.2.2.2 rfl rfl H2.out.2.2.1 rfl (Src.rd 82 81 Try.underlying82 H2.out.2.2.2.2 (itcs_one _)) (by unfold maxLen; omega) (by omega) (by omega) ?_; intro a9 cap9 w9 hr9 st9; rw [← itcs_app] at hr9; have H9 : Hid (Blk w9 b 24 (rwc x (.slice a x.es.length cap)).toArray ∧ Step [] (blks a9) w w9 ∧ Row w9 4 a9 6 cap9 (itcs ([nIt x.kind, nIt x.src, nIt x.term] ++ [nIt x.index, nIt x.round, fIt x.yes])) ∧ b ∉ blks a9) := ⟨H2.out.1.step st9 (by simpa [blks] using H2.out.2.2.2.1), H2.out.2.1.trans st9, hr9, st9.notin H2.out.1.lt (by simpa [blks] using H2.out.2.2.2.1)⟩; clear hr9 st9 ra rl)
  have HIT : Hid (([nIt x.kind, nIt x.src, nIt x.term] ++ [nIt x.index, nIt x.round, fIt x.yes]) = msgIts (cleanL x)) := Lib.hid (by simp [msgIts, cleanL, HK.out.1])
  have HCK : Hid (isKind (cleanL x).kind = true) := Lib.hid (by simp [cleanL, HK.out.1, isKind])
  have HLN : Hid (([nIt x.kind, nIt x.src, nIt x.term] ++ [nIt x.index, nIt x.round, fIt x.yes]).length = 6) := Lib.hid (by rfl)
  obtain ⟨its, hits⟩ : ∃ its, its = ([nIt x.kind, nIt x.src, nIt x.term] ++ [nIt x.index, nIt x.round, fIt x.yes]) := ⟨_, rfl⟩
  rw [← hits] at HIT HLN
  have H10 : Hid (Rd w9 4 a9 its.length (itcs its)) := Lib.hid (by rw [HLN.out, hits]; exact H9.out.2.2.1.rd)
  clear hits
  have HW := written_any its a9 cap9 w9 (by rw [HLN.out]; omega) H10.out (by rw [HIT.out]; exact its_small _ HCK.out HK.out.2.1)
  rw [HLN.out] at HW
  go_wp2_with fail
  refine HW.mono ?_
  rintro e X1 ⟨rfl, k1⟩
  rw [HIT.out, written_right _ HCK.out HK.out.2.1]
  have HX := Lib.hid ((H9.out.2.1.drop (S'' := []) (by simp)).trans k1)
  clear k1 HW
  go_wp2_with fail
  exact bodyPost_ret (results_tmp rfl _ _ _) rfl ⟨rfl, HX.out⟩

set_option maxHeartbeats 4000000 in
theorem refBy5_any (x : Rw) (a : Option Addr) (cap : Nat) (w : World) (hk : x.kind = 5) (hr : rightR (cleanL x) = true) (hrd : Rd w 3 a x.es.length (entcs x.es)) : Calls Try.prog 17 #[rwV x (.slice a x.es.length cap)] w fun e w' => e = .returned (Str (msgB (cleanL x))) ∧ Step [] [] w w' := by
  have HK := Lib.hid (And.intro hk (And.intro hr hrd))
  have k1 : (x.kind == 1) = false := by rw [hk]; rfl
  have k2 : (x.kind == 2) = false := by rw [hk]; rfl
  have k3 : (x.kind == 3) = false := by rw [hk]; rfl
  have k4 : (x.kind == 4) = false := by rw [hk]; rfl
  have k5 : (x.kind == 5) = true := by rw [hk]; rfl
  have H0 : Hid (Blk (w.alloc (.cells (rwc x (.slice a x.es.length cap)).toArray 24)) w.heap.size 24 (rwc x (.slice a x.es.length cap)).toArray ∧ Step [] [] w (w.alloc (.cells (rwc x (.slice a x.es.length cap)).toArray 24))) := ⟨Blk.new w _ _, (Step.refl [] w).alloc _⟩
  clear hk hr hrd
  go_enter Try.func17, Try.ntmps17
  go_upto_region 1 with fail
  obtain ⟨b, hb⟩ : ∃ b, b = w.heap.size := ⟨_, rfl⟩
  obtain ⟨V, hV⟩ : ∃ V, V = w.alloc (.cells (rwc x (.slice a x.es.length cap)).toArray 24) := ⟨_, rfl⟩
  rw [← hV, ← hb] at H0
  rw [show w.alloc (.cells #[.int .i64 x.kind, .int .i64 x.src, .int .i64 x.term, .int .i64 x.index, .int .i64 x.last, .int .i64 x.commit, .int .i64 x.round, .bool x.yes, .slice a x.es.length cap, .string ⟨x.data.toArray⟩] 24) = V from hV.symm, ← hb]
  clear hV hb
  have ra := H0.out.1.rw
  have rl := H0.out.1.lt
  go_upto_region 2 with fail
  obtain ⟨g, hg⟩ : ∃ g, g = V.heap.size := ⟨_, rfl⟩
  obtain ⟨V1, hV1⟩ : ∃ V1, V1 = V.alloc (.cells #[.int .i64 0, .int .i64 x.kind, .string ⟨#[]⟩, .bool false, .int .i64 0, .int .i64 x.src, .string ⟨#[]⟩, .bool false, .int .i64 0, .int .i64 x.term, .string ⟨#[]⟩, .bool false] 81) := ⟨_, rfl⟩
  have H1 : Hid (Blk V1 b 24 (rwc x (.slice a x.es.length cap)).toArray ∧ Step [] [g] w V1 ∧ Row V1 4 (some ⟨g, 0, none⟩) 3 3 (itcs [nIt x.kind, nIt x.src, nIt x.term]) ∧ b ≠ g) := by
    rw [hV1, hg]
    have B := Blk.new V 81 (itcs [nIt x.kind, nIt x.src, nIt x.term]).toArray
    exact ⟨H0.out.1.alloc _, (H0.out.2.hold _).drop (by simp), row_blk B 4 3 rfl (by unfold maxLen; omega), by have := H0.out.1.lt; omega⟩
  rw [← hV1, ← hg]
  clear hV1 hg ra rl H0
  have ra := H1.out.1.rw
  have rl := H1.out.1.lt
  obtain ⟨i0, hi, hz0, hz1, hz2⟩ := info_parts Try.info_item
  have HI := Lib.hid (And.intro hi (And.intro hz0 (And.intro hz1 hz2)))
  clear hi hz0 hz1 hz2
  obtain ⟨g2, hg2⟩ : ∃ g2, g2 = V1.heap.size := ⟨_, rfl⟩
  obtain ⟨V2, hV2⟩ : ∃ V2, V2 = V1.alloc (.cells #[.int .i64 0, .int .i64 x.index, .string ⟨#[]⟩, .bool false, .int .i64 0, .int .i64 x.last, .string ⟨#[]⟩, .bool false, .int .i64 0, .int .i64 x.round, .string ⟨#[]⟩, .bool false, .int .i64 1, .int .i64 0, .string ⟨x.data.toArray⟩, .bool false] 81) := ⟨_, rfl⟩
  have H2 : Hid (Blk V2 b 24 (rwc x (.slice a x.es.length cap)).toArray ∧ Step [] [g] w V2 ∧ Row V2 4 (some ⟨g, 0, none⟩) 3 3 (itcs [nIt x.kind, nIt x.src, nIt x.term]) ∧ b ≠ g ∧ Rd V2 4 (some ⟨g2, 0, none⟩) 4 (itcs [nIt x.index, nIt x.last, nIt x.round, tIt x.data])) := by
    rw [hV2, hg2]
    have B := Blk.new V1 81 (itcs [nIt x.index, nIt x.last, nIt x.round, tIt x.data]).toArray
    exact ⟨H1.out.1.alloc _, H1.out.2.1.alloc _, H1.out.2.2.1.alloc _, H1.out.2.2.2, rd_blk B 4 4 rfl⟩
  have HV2 := Lib.hid hV2
  have HG2 := Lib.hid hg2
  clear hV2 hg2
  go_upto_region 17 with (at_builtin; rw [show V1.heap.size = g2 from HG2.out.symm, show V1.alloc (.cells #[.int .i64 0, .int .i64 x.index, .string ⟨#[]⟩, .bool false, .int .i64 0, .int .i64 x.last, .string ⟨#[]⟩, .bool false, .int .i64 0, .int .i64 x.round, .string ⟨#[]⟩, .bool false, .int .i64 1, .int .i64 0, .string ⟨x.data.toArray⟩, .bool false] 81) = V2 from HV2.out.symm]; refine wpList_append_row rfl (.tmp 99) (.tmp 112) 82 82 rfl 81 i0 _ 4 40 Try.underlying82 HI.out.1 HI.out.2.1 HI.out.2.2.1 HI.out.2.2.2 rfl rfl H2.out.2.2.1 rfl (Src.rd 82 81 Try.underlying82 H2.out.2.2.2.2 (itcs_one _)) (by unfold maxLen; omega) (by omega) (by omega) ?_; intro a9 cap9 w9 hr9 st9; rw [← itcs_app] at hr9; have H9 : Hid (Blk w9 b 24 (rwc x (.slice a x.es.length cap)).toArray ∧ Step [] (blks a9) w w9 ∧ Row w9 4 a9 7 cap9 (itcs ([nIt x.kind, nIt x.src, nIt x.term] ++ [nIt x.index, nIt x.last, nIt x.round, tIt x.data])) ∧ b ∉ blks a9) := ⟨H2.out.1.step st9 (by simpa [blks] using H2.out.2.2.2.1), H2.out.2.1.trans st9, hr9, st9.notin H2.out.1.lt (by simpa [blks] using H2.out.2.2.2.1)⟩; clear hr9 st9 ra rl)
  have HIT : Hid (([nIt x.kind, nIt x.src, nIt x.term] ++ [nIt x.index, nIt x.last, nIt x.round, tIt x.data]) = msgIts (cleanL x)) := Lib.hid (by simp [msgIts, cleanL, HK.out.1])
  have HCK : Hid (isKind (cleanL x).kind = true) := Lib.hid (by simp [cleanL, HK.out.1, isKind])
  have HLN : Hid (([nIt x.kind, nIt x.src, nIt x.term] ++ [nIt x.index, nIt x.last, nIt x.round, tIt x.data]).length = 7) := Lib.hid (by rfl)
  obtain ⟨its, hits⟩ : ∃ its, its = ([nIt x.kind, nIt x.src, nIt x.term] ++ [nIt x.index, nIt x.last, nIt x.round, tIt x.data]) := ⟨_, rfl⟩
  rw [← hits] at HIT HLN
  have H10 : Hid (Rd w9 4 a9 its.length (itcs its)) := Lib.hid (by rw [HLN.out, hits]; exact H9.out.2.2.1.rd)
  clear hits
  have HW := written_any its a9 cap9 w9 (by rw [HLN.out]; omega) H10.out (by rw [HIT.out]; exact its_small _ HCK.out HK.out.2.1)
  rw [HLN.out] at HW
  go_wp2_with fail
  refine HW.mono ?_
  rintro e X1 ⟨rfl, k1⟩
  rw [HIT.out, written_right _ HCK.out HK.out.2.1]
  have HX := Lib.hid ((H9.out.2.1.drop (S'' := []) (by simp)).trans k1)
  clear k1 HW
  go_wp2_with fail
  exact bodyPost_ret (results_tmp rfl _ _ _) rfl ⟨rfl, HX.out⟩

set_option maxHeartbeats 4000000 in
theorem refBy3_any (x : Rw) (a : Option Addr) (cap : Nat) (w : World) (hk : x.kind = 3) (hr : rightR (cleanL x) = true) (hrd : Rd w 3 a x.es.length (entcs x.es)) : Calls Try.prog 17 #[rwV x (.slice a x.es.length cap)] w fun e w' => e = .returned (Str (msgB (cleanL x))) ∧ Step [] [] w w' := by
  have HK := Lib.hid (And.intro hk (And.intro hr hrd))
  have k1 : (x.kind == 1) = false := by rw [hk]; rfl
  have k2 : (x.kind == 2) = false := by rw [hk]; rfl
  have k3 : (x.kind == 3) = true := by rw [hk]; rfl
  have k4 : (x.kind == 4) = false := by rw [hk]; rfl
  have k5 : (x.kind == 5) = false := by rw [hk]; rfl
  have hl8 : x.es.length ≤ 8 := by have := (right_small hr).2.2.2.2.2.2.2.1; simpa [cleanL, hk] using this
  have H0 : Hid (Blk (w.alloc (.cells (rwc x (.slice a x.es.length cap)).toArray 24)) w.heap.size 24 (rwc x (.slice a x.es.length cap)).toArray ∧ Step [] [] w (w.alloc (.cells (rwc x (.slice a x.es.length cap)).toArray 24))) := ⟨Blk.new w _ _, (Step.refl [] w).alloc _⟩
  clear hk hr hrd
  go_enter Try.func17, Try.ntmps17
  go_upto_region 1 with fail
  obtain ⟨b, hb⟩ : ∃ b, b = w.heap.size := ⟨_, rfl⟩
  obtain ⟨V, hV⟩ : ∃ V, V = w.alloc (.cells (rwc x (.slice a x.es.length cap)).toArray 24) := ⟨_, rfl⟩
  rw [← hV, ← hb] at H0
  rw [show w.alloc (.cells #[.int .i64 x.kind, .int .i64 x.src, .int .i64 x.term, .int .i64 x.index, .int .i64 x.last, .int .i64 x.commit, .int .i64 x.round, .bool x.yes, .slice a x.es.length cap, .string ⟨x.data.toArray⟩] 24) = V from hV.symm, ← hb]
  clear hV hb
  have ra := H0.out.1.rw
  have rl := H0.out.1.lt
  go_upto_region 2 with fail
  obtain ⟨g, hg⟩ : ∃ g, g = V.heap.size := ⟨_, rfl⟩
  obtain ⟨V1, hV1⟩ : ∃ V1, V1 = V.alloc (.cells #[.int .i64 0, .int .i64 x.kind, .string ⟨#[]⟩, .bool false, .int .i64 0, .int .i64 x.src, .string ⟨#[]⟩, .bool false, .int .i64 0, .int .i64 x.term, .string ⟨#[]⟩, .bool false] 81) := ⟨_, rfl⟩
  have H1 : Hid (Blk V1 b 24 (rwc x (.slice a x.es.length cap)).toArray ∧ Step [] [g] w V1 ∧ Row V1 4 (some ⟨g, 0, none⟩) 3 3 (itcs [nIt x.kind, nIt x.src, nIt x.term]) ∧ b ≠ g) := by
    rw [hV1, hg]
    have B := Blk.new V 81 (itcs [nIt x.kind, nIt x.src, nIt x.term]).toArray
    exact ⟨H0.out.1.alloc _, (H0.out.2.hold _).drop (by simp), row_blk B 4 3 rfl (by unfold maxLen; omega), by have := H0.out.1.lt; omega⟩
  rw [← hV1, ← hg]
  clear hV1 hg ra rl H0
  have ra := H1.out.1.rw
  have rl := H1.out.1.lt
  obtain ⟨i0, hi, hz0, hz1, hz2⟩ := info_parts Try.info_item
  have HI := Lib.hid (And.intro hi (And.intro hz0 (And.intro hz1 hz2)))
  clear hi hz0 hz1 hz2
  obtain ⟨g2, hg2⟩ : ∃ g2, g2 = V1.heap.size := ⟨_, rfl⟩
  obtain ⟨V2, hV2⟩ : ∃ V2, V2 = V1.alloc (.cells #[.int .i64 0, .int .i64 x.index, .string ⟨#[]⟩, .bool false, .int .i64 0, .int .i64 x.last, .string ⟨#[]⟩, .bool false, .int .i64 0, .int .i64 x.commit, .string ⟨#[]⟩, .bool false, .int .i64 0, .int .i64 x.round, .string ⟨#[]⟩, .bool false, .int .i64 0, .int .i64 (x.es.length : Int), .string ⟨#[]⟩, .bool false] 81) := ⟨_, rfl⟩
  have H2 : Hid (Blk V2 b 24 (rwc x (.slice a x.es.length cap)).toArray ∧ Step [] [g] w V2 ∧ Row V2 4 (some ⟨g, 0, none⟩) 3 3 (itcs [nIt x.kind, nIt x.src, nIt x.term]) ∧ b ≠ g ∧ Rd V2 4 (some ⟨g2, 0, none⟩) 5 (itcs [nIt x.index, nIt x.last, nIt x.commit, nIt x.round, nIt x.es.length])) := by
    rw [hV2, hg2]
    have B := Blk.new V1 81 (itcs [nIt x.index, nIt x.last, nIt x.commit, nIt x.round, nIt x.es.length]).toArray
    exact ⟨H1.out.1.alloc _, H1.out.2.1.alloc _, H1.out.2.2.1.alloc _, H1.out.2.2.2, rd_blk B 4 5 rfl⟩
  have HV2 := Lib.hid hV2
  have HG2 := Lib.hid hg2
  clear hV2 hg2
  go_upto_region 9 with (at_builtin; rw [show V1.heap.size = g2 from HG2.out.symm, show V1.alloc (.cells #[.int .i64 0, .int .i64 x.index, .string ⟨#[]⟩, .bool false, .int .i64 0, .int .i64 x.last, .string ⟨#[]⟩, .bool false, .int .i64 0, .int .i64 x.commit, .string ⟨#[]⟩, .bool false, .int .i64 0, .int .i64 x.round, .string ⟨#[]⟩, .bool false, .int .i64 0, .int .i64 (x.es.length : Int), .string ⟨#[]⟩, .bool false] 81) = V2 from HV2.out.symm]; refine wpList_append_row rfl (.tmp 40) (.tmp 57) 82 82 rfl 81 i0 _ 4 40 Try.underlying82 HI.out.1 HI.out.2.1 HI.out.2.2.1 HI.out.2.2.2 rfl rfl H2.out.2.2.1 rfl (Src.rd 82 81 Try.underlying82 H2.out.2.2.2.2 (itcs_one _)) (by unfold maxLen; omega) (by omega) (by omega) ?_; intro a9 cap9 w9 hr9 st9; rw [← itcs_app] at hr9; have H9 : Hid (Blk w9 b 24 (rwc x (.slice a x.es.length cap)).toArray ∧ Step [] (blks a9) w w9 ∧ Row w9 4 a9 8 cap9 (itcs ([nIt x.kind, nIt x.src, nIt x.term] ++ [nIt x.index, nIt x.last, nIt x.commit, nIt x.round, nIt x.es.length])) ∧ b ∉ blks a9) := ⟨H2.out.1.step st9 (by simpa [blks] using H2.out.2.2.2.1), H2.out.2.1.trans st9, hr9, st9.notin H2.out.1.lt (by simpa [blks] using H2.out.2.2.2.1)⟩; clear hr9 st9 ra rl)
  go_wp2_with fail
  go_loopw [3, 4] (fun l v W => ∃ (k : Nat) (a5 : Option Addr) (cap5 : Nat), v = .int .i64 k ∧ k ≤ x.es.length ∧ l = .slice a5 (8 + 2 * k) cap5 ∧ Hid (Blk W b 24 (rwc x (.slice a x.es.length cap)).toArray ∧ Step [] (blks a5) w W ∧ Row W 4 a5 (8 + 2 * k) cap5 (itcs ([nIt x.kind, nIt x.src, nIt x.term] ++ [nIt x.index, nIt x.last, nIt x.commit, nIt x.round, nIt x.es.length] ++ entIts (x.es.take k))) ∧ b ∉ blks a5)) (fun _ v _ => x.es.length - (intOf v).toNat)
  case atStart => exact ⟨0, a9, cap9, rfl, by omega, rfl, H9.out.1, H9.out.2.1, by simpa [entIts] using H9.out.2.2.1, H9.out.2.2.2⟩
  case round =>
    clear H9 H2 H1
    rename World => W
    obtain ⟨k, a5, cap5, rfl, hk, rfl, HW⟩ := hrel
    have ra := HW.out.1.rw
    have rl := HW.out.1.lt
    by_cases hlt : k < x.es.length
    · have hlt' : (k : Int) < x.es.length := by omega
      obtain ⟨e, he⟩ : ∃ e, x.es[k]? = some e := ⟨_, List.getElem?_eq_getElem hlt⟩
      have HX := Lib.hid he
      clear he
      have hrd := HK.out.2.2.step0 HW.out.2.1
      obtain ⟨g5, off5, hsa⟩ := hrd.some_ (by omega)
      subst hsa
      have HRD := Lib.hid hrd
      clear hrd
      go_upto_region 12 with fail
      clear ra rl
      refine wp_region_held_drew (S := fun V => Hid (Blk V b 24 (rwc x (.slice (some ⟨g5, off5, none⟩) x.es.length cap)).toArray ∧ Rd V 3 (some ⟨g5, off5, none⟩) x.es.length (entcs x.es))) (by kernel_rfl) (Lib.hid ⟨HW.out.1.drew, HRD.out.drew⟩) (fun hHeld => ?_)
      refine wpAnyH_take (i := 0) (v := ?_) rfl (by kernel_rfl) (by kernel_rfl) (by kernel_rfl) (fun _ _ _ h => h) (Or.inl ⟨by rfl, ?_⟩) hHeld ?_
      rotate_left
      · intro w hSw
        have hSw1 := hSw
        clear hSw
        try dsimp only at hSw1
        go_simp
        try (with_reducible rfl)
      try simp only [Act.put, List.setIfInBounds_toArray, List.set_cons_zero, List.set_cons_succ, List.getElem_toArray, List.getElem_cons_zero, List.getElem_cons_succ]
      refine wpAnyH_take (i := 1) (v := ?_) rfl (by kernel_rfl) (by kernel_rfl) (by kernel_rfl) (fun _ _ _ h => h) (Or.inl ⟨by rfl, ?_⟩) hHeld ?_
      rotate_left
      · intro w hSw
        have hSw1 := hSw
        clear hSw
        try dsimp only at hSw1
        go_simp
        try (with_reducible rfl)
      try simp only [Act.put, List.setIfInBounds_toArray, List.set_cons_zero, List.set_cons_succ, List.getElem_toArray, List.getElem_cons_zero, List.getElem_cons_succ]
      refine wpAnyH_take (i := 2) (v := ?_) rfl (by kernel_rfl) (by kernel_rfl) (by kernel_rfl) (fun _ _ _ h => h) (Or.inl ⟨by rfl, ?_⟩) hHeld ?_
      rotate_left
      · intro w hSw
        have hSw1 := hSw
        clear hSw
        have ra := hSw1.out.1.rw
        have rl := hSw1.out.1.lt
        go_simp
        try (with_reducible rfl)
      try simp only [Act.put, List.setIfInBounds_toArray, List.set_cons_zero, List.set_cons_succ, List.getElem_toArray, List.getElem_cons_zero, List.getElem_cons_succ]
      refine wpAnyH_take (i := 3) (v := ?_) rfl (by kernel_rfl) (by kernel_rfl) (by kernel_rfl) (fun _ _ _ h => h) (Or.inl ⟨by rfl, ?_⟩) hHeld ?_
      rotate_left
      · intro w hSw
        have hSw1 := hSw
        clear hSw
        try dsimp only at hSw1
        go_simp
        try (with_reducible rfl)
      try simp only [Act.put, List.setIfInBounds_toArray, List.set_cons_zero, List.set_cons_succ, List.getElem_toArray, List.getElem_cons_zero, List.getElem_cons_succ]
      refine wpAnyH_take (i := 4) (v := ?_) rfl (by kernel_rfl) (by kernel_rfl) (by kernel_rfl) (fun _ _ _ h => h) (Or.inl ⟨by rfl, ?_⟩) hHeld ?_
      rotate_left
      · intro w hSw
        have hSw1 := hSw
        clear hSw
        have ce := rd_ent hSw1.out.2 HX.out
        have gl := World.block_lt_of_cell? _ _ ce.1
        simp only at gl
        go_simp
        try (with_reducible rfl)
      try simp only [Act.put, List.setIfInBounds_toArray, List.set_cons_zero, List.set_cons_succ, List.getElem_toArray, List.getElem_cons_zero, List.getElem_cons_succ]
      refine wpAnyH_take (i := 5) (v := ?_) rfl (by kernel_rfl) (by kernel_rfl) (by kernel_rfl) (fun _ _ _ h => h) (Or.inl ⟨by rfl, ?_⟩) hHeld ?_
      rotate_left
      · intro w hSw
        have hSw1 := hSw
        clear hSw
        try dsimp only at hSw1
        go_simp
        try (with_reducible rfl)
      try simp only [Act.put, List.setIfInBounds_toArray, List.set_cons_zero, List.set_cons_succ, List.getElem_toArray, List.getElem_cons_zero, List.getElem_cons_succ]
      refine wpAnyH_take (i := 6) (v := ?_) rfl (by kernel_rfl) (by kernel_rfl) (by kernel_rfl) (fun _ _ _ h => h) (Or.inl ⟨by rfl, ?_⟩) hHeld ?_
      rotate_left
      · intro w hSw
        have hSw1 := hSw
        clear hSw
        have ce := rd_ent hSw1.out.2 HX.out
        have gl := World.block_lt_of_cell? _ _ ce.1
        simp only at gl
        go_simp
        try (with_reducible rfl)
      try simp only [Act.put, List.setIfInBounds_toArray, List.set_cons_zero, List.set_cons_succ, List.getElem_toArray, List.getElem_cons_zero, List.getElem_cons_succ]
      refine wpAnyH_take (i := 7) (v := ?_) rfl (by kernel_rfl) (by kernel_rfl) (by kernel_rfl) (fun _ _ _ h => h) (Or.inl ⟨by rfl, ?_⟩) hHeld ?_
      rotate_left
      · intro w hSw
        have hSw1 := hSw
        clear hSw
        try dsimp only at hSw1
        go_simp
        try (with_reducible rfl)
      try simp only [Act.put, List.setIfInBounds_toArray, List.set_cons_zero, List.set_cons_succ, List.getElem_toArray, List.getElem_cons_zero, List.getElem_cons_succ]
      refine wpAnyH_take (i := 8) (v := ?_) rfl (by kernel_rfl) (by kernel_rfl) (by kernel_rfl) (fun _ _ _ h => h) (Or.inl ⟨by rfl, ?_⟩) hHeld ?_
      rotate_left
      · intro w hSw
        have hSw1 := hSw
        clear hSw
        try dsimp only at hSw1
        go_simp
        try (with_reducible rfl)
      try simp only [Act.put, List.setIfInBounds_toArray, List.set_cons_zero, List.set_cons_succ, List.getElem_toArray, List.getElem_cons_zero, List.getElem_cons_succ]
      refine wpAnyH_take (i := 9) (v := ?_) rfl (by kernel_rfl) (by kernel_rfl) (by kernel_rfl) (fun _ _ _ h => h) (Or.inl ⟨by rfl, ?_⟩) hHeld ?_
      rotate_left
      · intro w hSw
        have hSw1 := hSw
        clear hSw
        have ra := hSw1.out.1.rw
        have rl := hSw1.out.1.lt
        go_simp
        try (with_reducible rfl)
      try simp only [Act.put, List.setIfInBounds_toArray, List.set_cons_zero, List.set_cons_succ, List.getElem_toArray, List.getElem_cons_zero, List.getElem_cons_succ]
      refine wpAnyH_take (i := 10) (v := ?_) rfl (by kernel_rfl) (by kernel_rfl) (by kernel_rfl) (fun _ _ _ h => h) (Or.inl ⟨by rfl, ?_⟩) hHeld ?_
      rotate_left
      · intro w hSw
        have hSw1 := hSw
        clear hSw
        try dsimp only at hSw1
        go_simp
        try (with_reducible rfl)
      try simp only [Act.put, List.setIfInBounds_toArray, List.set_cons_zero, List.set_cons_succ, List.getElem_toArray, List.getElem_cons_zero, List.getElem_cons_succ]
      refine wpAnyH_take (i := 11) (v := ?_) rfl (by kernel_rfl) (by kernel_rfl) (by kernel_rfl) (fun _ _ _ h => h) (Or.inl ⟨by rfl, ?_⟩) hHeld ?_
      rotate_left
      · intro w hSw
        have hSw1 := hSw
        clear hSw
        have ce := rd_ent hSw1.out.2 HX.out
        have gl := World.block_lt_of_cell? _ _ ce.1
        simp only at gl
        go_simp
        try (with_reducible rfl)
      try simp only [Act.put, List.setIfInBounds_toArray, List.set_cons_zero, List.set_cons_succ, List.getElem_toArray, List.getElem_cons_zero, List.getElem_cons_succ]
      refine wpAnyH_take (i := 12) (v := ?_) rfl (by kernel_rfl) (by kernel_rfl) (by kernel_rfl) (fun _ _ _ h => h) (Or.inl ⟨by rfl, ?_⟩) hHeld ?_
      rotate_left
      · intro w hSw
        have hSw1 := hSw
        clear hSw
        try dsimp only at hSw1
        go_simp
        try (with_reducible rfl)
      try simp only [Act.put, List.setIfInBounds_toArray, List.set_cons_zero, List.set_cons_succ, List.getElem_toArray, List.getElem_cons_zero, List.getElem_cons_succ]
      refine wpAnyH_take (i := 13) (v := ?_) rfl (by kernel_rfl) (by kernel_rfl) (by kernel_rfl) (fun _ _ _ h => h) (Or.inl ⟨by rfl, ?_⟩) hHeld ?_
      rotate_left
      · intro w hSw
        have hSw1 := hSw
        clear hSw
        have ce := rd_ent hSw1.out.2 HX.out
        have gl := World.block_lt_of_cell? _ _ ce.1
        simp only at gl
        go_simp
        try (with_reducible rfl)
      try simp only [Act.put, List.setIfInBounds_toArray, List.set_cons_zero, List.set_cons_succ, List.getElem_toArray, List.getElem_cons_zero, List.getElem_cons_succ]
      refine wpAnyH_take (i := 14) (v := ?_) rfl (by kernel_rfl) (by kernel_rfl) (by kernel_rfl) (fun _ _ _ h => h) (Or.inl ⟨by rfl, ?_⟩) hHeld ?_
      rotate_left
      · intro w hSw
        have hSw1 := hSw
        clear hSw
        try dsimp only at hSw1
        go_simp
        try (with_reducible rfl)
      try simp only [Act.put, List.setIfInBounds_toArray, List.set_cons_zero, List.set_cons_succ, List.getElem_toArray, List.getElem_cons_zero, List.getElem_cons_succ]
      refine wpAnyH_ready (rs := [15]) (by kernel_rfl) (by simp) ?_
      refine AllReadyH.cons rfl (fun K hK => ?_) AllReadyH.nil
      go_simp; go_wp2_with fail; refine letter (K := K) ?_; intro U hU; obtain ⟨eb, heb⟩ : ∃ eb, eb = W.heap.size := ⟨_, rfl⟩; have G3 : Hid (Blk U b 24 (rwc x (.slice (some ⟨g5, off5, none⟩) x.es.length cap)).toArray ∧ Step [] (blks a5) w U ∧ Row U 4 a5 (8 + 2 * k) cap5 (itcs ([nIt x.kind, nIt x.src, nIt x.term] ++ [nIt x.index, nIt x.last, nIt x.commit, nIt x.round, nIt x.es.length] ++ entIts (x.es.take k))) ∧ Rd U 4 (some ⟨eb, 0, none⟩) 2 (itcs [nIt e.term, tIt e.data])) := Lib.hid (by rw [hU, heb]; exact ⟨HW.out.1.drew.alloc _, HW.out.2.1.drew.alloc _, HW.out.2.2.1.drew.alloc _, rd_blk (xs := itcs [nIt e.term, tIt e.data]) (Blk.new W.drew 81 _) 4 2 rfl⟩); try rw [← heb]; clear hU heb
      refine hK.out _ _ (Lib.hid ⟨G3.out.1, HK.out.2.2.step0 G3.out.2.1⟩) (fun hHeld2 => ?_)
      clear hK K hHeld
      try simp only [Act.put, List.setIfInBounds_toArray, List.set_cons_zero, List.set_cons_succ, List.getElem_toArray, List.getElem_cons_zero, List.getElem_cons_succ]
      refine wpAnyH_ready (rs := [16]) (by kernel_rfl) (by simp) ?_
      refine AllReadyH.cons rfl (fun K hK => ?_) AllReadyH.nil
      refine step_append_row rfl (.tmp 66) (.tmp 81) 82 82 rfl 81 i0 _ 4 40 Try.underlying82 HI.out.1 HI.out.2.1 HI.out.2.2.1 HI.out.2.2.2 rfl rfl G3.out.2.2.1 rfl (Src.rd 82 81 Try.underlying82 G3.out.2.2.2 (itcs_one _)) (by unfold maxLen; omega) (by omega) (by omega) ?_; intro a9 cap9 w9 hr9 st9; rw [← itcs_app, List.append_assoc, ← entIts_take _ _ _ HX.out] at hr9; have G9 : Hid (Blk w9 b 24 (rwc x (.slice (some ⟨g5, off5, none⟩) x.es.length cap)).toArray ∧ Step [] (blks a9) w w9 ∧ Row w9 4 a9 (8 + 2 * k + 2) cap9 (itcs ([nIt x.kind, nIt x.src, nIt x.term] ++ [nIt x.index, nIt x.last, nIt x.commit, nIt x.round, nIt x.es.length] ++ entIts (x.es.take (k + 1)))) ∧ b ∉ blks a9) := ⟨G3.out.1.step st9 HW.out.2.2.2, G3.out.2.1.trans st9, hr9, st9.notin G3.out.1.lt HW.out.2.2.2⟩; clear hr9 st9
      refine hK.out _ _ (Lib.hid ⟨G9.out.1, HK.out.2.2.step0 G9.out.2.1⟩) (fun hHeld3 => ?_)
      clear hK K hHeld2
      try simp only [Act.put, List.setIfInBounds_toArray, List.set_cons_zero, List.set_cons_succ, List.getElem_toArray, List.getElem_cons_zero, List.getElem_cons_succ]
      refine wpAnyH_take (i := 17) (v := ?_) rfl (by kernel_rfl) (by kernel_rfl) (by kernel_rfl) (fun _ _ _ h => h) (Or.inl ⟨by rfl, ?_⟩) hHeld3 ?_
      rotate_left
      · intro w hSw
        have hSw1 := hSw
        clear hSw
        try dsimp only at hSw1
        go_simp
        try (with_reducible rfl)
      try simp only [Act.put, List.setIfInBounds_toArray, List.set_cons_zero, List.set_cons_succ, List.getElem_toArray, List.getElem_cons_zero, List.getElem_cons_succ]
      refine wpAnyH_done (by kernel_rfl) ?_ _
      have e8 : (8 + 2 * k + 2 : Nat) = 8 + 2 * (k + 1) := by omega
      rw [e8] at G9
      rw [e8]
      clear e8
      go_wp2_with fail
      go_roundw
      case rel => exact ⟨k + 1, a9, cap9, by go_num, by omega, rfl, G9.out⟩
      case measure => simp [intOf]; omega
    · obtain rfl : k = x.es.length := by omega
      have H9 : Hid (Blk W b 24 (rwc x (.slice a x.es.length cap)).toArray ∧ Step [] (blks a5) w W ∧ Row W 4 a5 (8 + 2 * x.es.length) cap5 (itcs ([nIt x.kind, nIt x.src, nIt x.term] ++ [nIt x.index, nIt x.last, nIt x.commit, nIt x.round, nIt x.es.length] ++ entIts x.es)) ∧ True) := ⟨HW.out.1, HW.out.2.1, by have := HW.out.2.2.1; rwa [List.take_length] at this, trivial⟩
      have HIT : Hid (([nIt x.kind, nIt x.src, nIt x.term] ++ [nIt x.index, nIt x.last, nIt x.commit, nIt x.round, nIt x.es.length] ++ entIts x.es) = msgIts (cleanL x)) := Lib.hid (by simp [msgIts, cleanL, HK.out.1])
      have HCK : Hid (isKind (cleanL x).kind = true) := Lib.hid (by simp [cleanL, HK.out.1, isKind])
      have HLN : Hid (([nIt x.kind, nIt x.src, nIt x.term] ++ [nIt x.index, nIt x.last, nIt x.commit, nIt x.round, nIt x.es.length] ++ entIts x.es).length = 8 + 2 * x.es.length) := Lib.hid (by simp [entIts_len]; omega)
      obtain ⟨its, hits⟩ : ∃ its, its = ([nIt x.kind, nIt x.src, nIt x.term] ++ [nIt x.index, nIt x.last, nIt x.commit, nIt x.round, nIt x.es.length] ++ entIts x.es) := ⟨_, rfl⟩
      rw [← hits] at HIT HLN
      have H10 : Hid (Rd W 4 a5 its.length (itcs its)) := Lib.hid (by rw [HLN.out, hits]; exact H9.out.2.2.1.rd)
      clear hits
      have HW := written_any its a5 cap5 W (by rw [HLN.out]; omega) H10.out (by rw [HIT.out]; exact its_small _ HCK.out HK.out.2.1)
      rw [HLN.out] at HW
      go_wp2_with fail
      refine HW.mono ?_
      rintro e X1 ⟨rfl, k1⟩
      rw [HIT.out, written_right _ HCK.out HK.out.2.1]
      have HX := Lib.hid ((H9.out.2.1.drop (S'' := []) (by simp)).trans k1)
      clear k1 HW
      go_wp2_with fail
      exact bodyPost_ret (results_tmp rfl _ _ _) rfl ⟨rfl, HX.out⟩

theorem refBy_any (x : Rw) (a : Option Addr) (cap : Nat) (w : World) (hk : isKind x.kind = true) (hr : rightR (cleanL x) = true) (hrd : Rd w 3 a x.es.length (entcs x.es)) : Calls Try.prog 17 #[rwV x (.slice a x.es.length cap)] w fun e w' => e = .returned (Str (msgB (cleanL x))) ∧ Step [] [] w w' := by
  rcases kind_cases hk with h | h | h | h | h
  · exact refBy1_any x a cap w h hr hrd
  · exact refBy2_any x a cap w h hr hrd
  · exact refBy3_any x a cap w h hr hrd
  · exact refBy4_any x a cap w h hr hrd
  · exact refBy5_any x a cap w h hr hrd
end Go.Proofs.Ytihklmomipidaaa
