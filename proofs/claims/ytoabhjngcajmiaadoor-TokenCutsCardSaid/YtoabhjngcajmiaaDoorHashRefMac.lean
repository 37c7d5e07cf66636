/-
  The reference's Mac. Condition: texts of at most 2^40 bytes.
-/
import Derived.Test.YtoabhjngcajmiaaDoorHashMac
import Derived.Test.YtoabhjngcajmiaaDoorHashRefSum
namespace Go.Proofs.YtoabhjngcajmiaaDoor
open Go.RowKit
set_option linter.unusedSimpArgs false
set_option linter.unusedVariables false

theorem pad_step {W : World} {g k : Nat} {PK : List UInt8} {f : UInt8 → UInt8} {c : UInt8} (h : Blk W g 5 ((((PK.take k).map f ++ List.replicate (64 - k) 0).map bv).toArray.setIfInBounds k (bv (f c)))) (hk : k < 64) (hc : PK[k]? = some c) (hl : PK.length = 64) :
    Blk W g 5 ((((PK.take (k + 1)).map f ++ List.replicate (64 - (k + 1)) 0).map bv)).toArray := by
  have e : ((((PK.take k).map f ++ List.replicate (64 - k) 0).map bv).toArray.setIfInBounds k (bv (f c))) = ((((PK.take (k + 1)).map f ++ List.replicate (64 - (k + 1)) 0).map bv)).toArray := by
    rw [List.setIfInBounds_toArray, show 64 - k = (64 - (k + 1)) + 1 by omega, List.replicate_succ, List.take_add_one, hc]
    congr 1
    have := list_set_mid (((PK.take k).map f).map bv) ((List.replicate (64 - (k + 1)) (0 : UInt8)).map bv) (bv 0) (bv (f c))
    rw [List.length_map, List.length_map, List.length_take, Nat.min_eq_left (by omega)] at this
    rw [List.map_append, List.map_cons, this]
    simp
  rw [e] at h
  exact h

set_option maxRecDepth 100000 in
set_option maxHeartbeats 4000000 in
theorem refMac_any (key s : List UInt8) (w : World) (hk : key.length ≤ 1099511627776) (hs : s.length ≤ 1099511627000) :
    Calls Tryd.prog 20 #[Str key, Str s] w fun e w' => e = .returned (Str (macOf key s)) ∧ Step [] [] w w' := by
  obtain ⟨Z, hZ⟩ : ∃ Z, Z = madeCells #[Value.int .u8 0] 64 := ⟨_, rfl⟩
  have hmk : ∀ W, (Instr.makeSlice 31 (.int .i64 64) (.int .i64 64)).run Tryd.prog W = .ok (.slice (some ⟨W.heap.size, 0, none⟩) 64 64) (W.alloc (.cells Z 5)) := fun W => by
    rw [hZ]; exact run_make_row' (P := Tryd.prog) 31 5 (.int .u8 0) 1 Tryd.underlying31 Tryd.info_bytes rfl .i64 .i64 64 (by omega) (by omega) W
  have HZ := Lib.hid hZ
  clear hZ
  obtain ⟨mk, hmk'⟩ : ∃ mk, mk = macKey key := ⟨_, rfl⟩
  have hl := macKey_len key
  rw [← hmk'] at hl
  have HMK := Lib.hid hmk'
  obtain ⟨DD, hDD⟩ : ∃ DD, DD = macOf key s := ⟨_, rfl⟩
  rw [← hDD]
  have hDD := Lib.hid hDD
  by_cases hlong : 64 < key.length
  · have hlong' : (64 : Int) < key.length := by omega
    have e0 : sha key = mk := by rw [HMK.out, macKey, if_pos hlong]
    clear hmk'
    go_enter Tryd.func20, Tryd.ntmps20
    go_wp2_with fail
    refine (refSum_any key _ hk).mono ?_
    rintro e W ⟨rfl, k2⟩
    rw [e0]
    have KW := Lib.hid k2
    clear k2
    go_upto_region 3 with fail
    go_cut [5, 6] (fun u v wx => ∃ p q : Nat, u = .slice (some ⟨p, 0, none⟩) 64 64 ∧ v = .slice (some ⟨q, 0, none⟩) 64 64 ∧ Hid (p ≠ q ∧ w.heap.size ≤ p ∧ w.heap.size ≤ q ∧ Blk wx p 5 Z ∧ Blk wx q 5 Z ∧ Step [] [] w wx))
    case first =>
      have hWs := Lib.hid KW.out.size
      go_region
      all_goals (go_wp2_with fail)
      all_goals go_meet
      all_goals
        first
        | exact ⟨W.heap.size, W.heap.size + 1, rfl, rfl, Lib.hid ⟨by omega, hWs.out, Nat.le_succ_of_le hWs.out, ((Blk.new W 5 Z).alloc _).drew, by have := (Blk.new (W.alloc (.cells Z 5)) 5 Z).drew; simpa using this, ((KW.out.alloc _).alloc _).drew⟩⟩
        | exact ⟨W.heap.size + 1, W.heap.size, rfl, rfl, Lib.hid ⟨by omega, Nat.le_succ_of_le hWs.out, hWs.out, by have := (Blk.new (W.alloc (.cells Z 5)) 5 Z).drew; simpa using this, ((Blk.new W 5 Z).alloc _).drew, ((KW.out.alloc _).alloc _).drew⟩⟩
    case rest =>
      obtain ⟨p, q, rfl, rfl, HC⟩ := hcut
      rename World => V
      have hpq := Lib.hid (And.intro HC.out.1 (And.intro HC.out.2.1 HC.out.2.2.1))
      have n1 : p ≠ q := HC.out.1
      have n2 : q ≠ p := fun h => n1 h.symm
      obtain ⟨PK, hPK⟩ : ∃ PK, PK = padKey mk := ⟨_, rfl⟩
      have hpl : PK.length = 64 := by rw [hPK]; simp [padKey]; omega
      have hget : ∀ k (h : k < mk.length), PK[k]? = some mk[k] := fun k h => by
        rw [hPK, padKey, List.getElem?_append_left h]; exact List.getElem?_eq_getElem h
      have hzero : ∀ k, mk.length ≤ k → k < 64 → PK[k]? = some 0 := fun k h h2 => by
        rw [hPK, padKey, List.getElem?_append_right h, List.getElem?_replicate, if_pos (by omega)]
      have HPK := Lib.hid (And.intro hPK (And.intro hpl (And.intro hget hzero)))
      clear hPK hpl hget hzero
      have zz : Z = ((((PK.take 0).map (· ^^^ (54 : UInt8))) ++ List.replicate (64 - 0) 0).map bv).toArray := by
        apply Array.ext'
        rw [HZ.out, toList_madeCells_one]; simp [bv]
      have zz2 : Z = ((((PK.take 0).map (· ^^^ (92 : UInt8))) ++ List.replicate (64 - 0) 0).map bv).toArray := by
        apply Array.ext'
        rw [HZ.out, toList_madeCells_one]; simp [bv]
      have HZZ := Lib.hid (And.intro zz zz2)
      clear zz zz2
      go_upto_block 0 with fail
      go_cut [] (fun wx => Hid (Blk wx p 5 ((padBy mk 54).map bv).toArray ∧ Blk wx q 5 ((padBy mk 92).map bv).toArray ∧ Step [] [] w wx))
      case first =>
        go_wp2_with fail
        go_loopw [7] (fun i wr => ∃ k : Nat, k ≤ 64 ∧ i = .int .i64 k ∧ Hid (Blk wr p 5 ((((PK.take k).map (· ^^^ (54 : UInt8))) ++ List.replicate (64 - k) 0).map bv).toArray ∧ Blk wr q 5 ((((PK.take k).map (· ^^^ (92 : UInt8))) ++ List.replicate (64 - k) 0).map bv).toArray ∧ Step [] [] w wr))
          (fun i _ => 64 - (intOf i).toNat)
        case atStart => exact ⟨0, by omega, rfl, by have := HC.out.2.2.2.1; rw [HZZ.out.1] at this; exact this, by have := HC.out.2.2.2.2.1; rw [HZZ.out.2] at this; exact this, HC.out.2.2.2.2.2⟩
        case round =>
          obtain ⟨k, hk', rfl, HW⟩ := hrel
          by_cases hlt : k < 64
          · have hlt' : (k : Int) < 64 := by omega
            have d0 : ∃ u, wr.cell? ⟨p, k, none⟩ = some u := by
              rw [HW.out.1.cell]; exact ⟨_, Array.getElem?_eq_getElem (by simp [HPK.out.2.1]; omega)⟩
            have d1 : ∃ u, wr.cell? ⟨q, k, none⟩ = some u := by
              rw [HW.out.2.1.cell]; exact ⟨_, Array.getElem?_eq_getElem (by simp [HPK.out.2.1]; omega)⟩
            obtain ⟨u0, d0⟩ := d0
            obtain ⟨u1, d1⟩ := d1
            have f0 := HW.out.1.frozen k
            have f1 := HW.out.2.1.frozen k
            by_cases hin : k < mk.length
            · have hin' : (k : Int) < mk.length := by omega
              obtain ⟨c, hc⟩ : ∃ c, mk[k] = c := ⟨_, rfl⟩
              have hcc : Hid (PK[k]? = some c) := by rw [← hc]; exact HPK.out.2.2.1 k hin
              have hx1 : bits BinOp.xor IntKind.u8 (c.toNat : Int) 54 = ((c ^^^ 54).toNat : Int) := xor_byte c 54
              have hx2 : bits BinOp.xor IntKind.u8 (c.toNat : Int) 92 = ((c ^^^ 92).toNat : Int) := xor_byte c 92
              go_wp2_with fail
              go_roundw
              case rel =>
                refine ⟨k + 1, by omega, by go_num, ?_, ?_, (HW.out.2.2.setCell (.inr hpq.out.2.1) _).setCell (.inr hpq.out.2.2) _⟩
                · exact pad_step (HW.out.1.set k _) hlt hcc.out HPK.out.2.1 |>.far n1 _
                · exact pad_step ((HW.out.2.1.far n2 _).set k _) hlt hcc.out HPK.out.2.1
              case measure => simp [intOf]; omega
            · have hin' : ¬ (k : Int) < mk.length := by omega
              have hcc : Hid (PK[k]? = some 0) := HPK.out.2.2.2 k (by omega) hlt
              have hx1 : bits BinOp.xor IntKind.u8 0 54 = (((0 : UInt8) ^^^ 54).toNat : Int) := xor_byte 0 54
              have hx2 : bits BinOp.xor IntKind.u8 0 92 = (((0 : UInt8) ^^^ 92).toNat : Int) := xor_byte 0 92
              go_wp2_with fail
              go_roundw
              case rel =>
                refine ⟨k + 1, by omega, by go_num, ?_, ?_, (HW.out.2.2.setCell (.inr hpq.out.2.1) _).setCell (.inr hpq.out.2.2) _⟩
                · exact pad_step (HW.out.1.set k (bv (0 ^^^ 54))) hlt hcc.out HPK.out.2.1 |>.far n1 _
                · exact pad_step ((HW.out.2.1.far n2 _).set k (bv (0 ^^^ 92))) hlt hcc.out HPK.out.2.1
              case measure => simp [intOf]; omega
          · obtain rfl : k = 64 := by omega
            go_wp2_with fail
            go_meet
            case rel =>
              have hp64 : PK.take 64 = PK := List.take_of_length_le (by rw [HPK.out.2.1]; exact Nat.le_refl _)
              have h1 := HW.out.1
              have h2 := HW.out.2.1
              rw [hp64, Nat.sub_self, List.replicate_zero, List.append_nil, HPK.out.1] at h1 h2
              exact ⟨h1, h2, HW.out.2.2⟩
      case rest =>
        rename World => V1
        have h54 := padBy_len mk 54 hl
        have h92 := padBy_len mk 92 hl
        obtain ⟨A, hA⟩ : ∃ A, A = padBy mk 92 := ⟨_, rfl⟩
        obtain ⟨B, hB⟩ : ∃ B, B = padBy mk 54 := ⟨_, rfl⟩
        rw [← hA, ← hB] at hcut
        rw [← hA] at h92
        rw [← hB] at h54
        have HA := Lib.hid (And.intro hA hB)
        clear hA hB
        have cv1 : ∀ W : World, Blk W q 5 (A.map bv).toArray → (convert 31 9 (.slice (some ⟨q, 0, none⟩) 64 64)).run Tryd.prog W = .ok (Str A) W := fun W h => by
          have hr := h.row (by rw [List.length_map, h92]; unfold maxLen; omega)
          rw [List.length_map, h92] at hr
          exact run_str_of_row 31 9 5 Tryd.underlying31 Tryd.underlying5 Tryd.underlying9 hr
        have cv2 : ∀ W : World, Blk W p 5 (B.map bv).toArray → (convert 31 9 (.slice (some ⟨p, 0, none⟩) 64 64)).run Tryd.prog W = .ok (Str B) W := fun W h => by
          have hr := h.row (by rw [List.length_map, h54]; unfold maxLen; omega)
          rw [List.length_map, h54] at hr
          exact run_str_of_row 31 9 5 Tryd.underlying31 Tryd.underlying5 Tryd.underlying9 hr
        have hle1 : ¬ (9223372036854775807 : Int) < 64 + (s.length : Int) := by omega
        have hle2 : ¬ (9223372036854775807 : Int) < 64 + 32 := by omega
        have hle3 : ¬ 9223372036854775807 < 64 + s.length := by omega
        have hle4 : 64 + s.length ≤ 9223372036854775807 := by omega
        have HS32 := sha_len (B ++ s)
        go_wp2_with fail
        refine wp_region_held_drew (S := fun w => Blk w q 5 (A.map bv).toArray ∧ Blk w p 5 (B.map bv).toArray) (by kernel_rfl) (⟨hcut.out.2.1.drew, hcut.out.1.drew⟩) (fun hHeld => ?_)
        refine wpAnyH_take (i := 0) (v := ?_) rfl (by kernel_rfl) (by kernel_rfl) (by kernel_rfl) (fun _ _ _ h => h) (Or.inl ⟨by rfl, ?_⟩) hHeld ?_
        rotate_left
        · intro w hSw
          have hSw1 := hSw
          clear hSw
          try dsimp only at hSw1
          go_simp
          try (with_reducible rfl)
        try simp only [Act.put, List.setIfInBounds_toArray, List.set_cons_zero, List.set_cons_succ, List.getElem_toArray, List.getElem_cons_zero, List.getElem_cons_succ]
        refine wpAnyH_take (i := 1) (v := ?_) rfl (by kernel_rfl) (by kernel_rfl) (by kernel_rfl) (fun _ _ _ h => h) (Or.inl ⟨by rfl, ?_⟩) hHeld ?_
        rotate_left
        · intro w hSw
          have hSw1 := hSw
          clear hSw
          try dsimp only at hSw1
          go_simp
          try (with_reducible rfl)
        try simp only [Act.put, List.setIfInBounds_toArray, List.set_cons_zero, List.set_cons_succ, List.getElem_toArray, List.getElem_cons_zero, List.getElem_cons_succ]
        refine wpAnyH_take (i := 2) (v := ?_) rfl (by kernel_rfl) (by kernel_rfl) (by kernel_rfl) (fun _ _ _ h => h) (Or.inl ⟨by rfl, ?_⟩) hHeld ?_
        rotate_left
        · intro w hSw
          have hSw1 := hSw
          clear hSw
          try dsimp only at hSw1
          go_simp
          try (with_reducible rfl)
        try simp only [Act.put, List.setIfInBounds_toArray, List.set_cons_zero, List.set_cons_succ, List.getElem_toArray, List.getElem_cons_zero, List.getElem_cons_succ]
        refine wpAnyH_take (i := 3) (v := ?_) rfl (by kernel_rfl) (by kernel_rfl) (by kernel_rfl) (fun _ _ _ h => h) (Or.inl ⟨by rfl, ?_⟩) hHeld ?_
        rotate_left
        · intro w hSw
          have hSw1 := hSw
          clear hSw
          try dsimp only at hSw1
          go_simp
          try (with_reducible rfl)
        try simp only [Act.put, List.setIfInBounds_toArray, List.set_cons_zero, List.set_cons_succ, List.getElem_toArray, List.getElem_cons_zero, List.getElem_cons_succ]
        refine wpAnyH_take (i := 4) (v := ?_) rfl (by kernel_rfl) (by kernel_rfl) (by kernel_rfl) (fun _ _ _ h => h) (Or.inl ⟨by rfl, ?_⟩) hHeld ?_
        rotate_left
        · intro w hSw
          have hSw1 := hSw
          clear hSw
          try dsimp only at hSw1
          go_simp
          try (with_reducible rfl)
        try simp only [Act.put, List.setIfInBounds_toArray, List.set_cons_zero, List.set_cons_succ, List.getElem_toArray, List.getElem_cons_zero, List.getElem_cons_succ]
        refine wpAnyH_take (i := 5) (v := ?_) rfl (by kernel_rfl) (by kernel_rfl) (by kernel_rfl) (fun _ _ _ h => h) (Or.inl ⟨by rfl, ?_⟩) hHeld ?_
        rotate_left
        · intro w hSw
          have hSw1 := hSw
          clear hSw
          try dsimp only at hSw1
          go_simp
          try (with_reducible rfl)
        try simp only [Act.put, List.setIfInBounds_toArray, List.set_cons_zero, List.set_cons_succ, List.getElem_toArray, List.getElem_cons_zero, List.getElem_cons_succ]
        refine wpAnyH_ready (rs := [6]) (by kernel_rfl) (by simp) ?_
        refine AllReadyH.cons rfl (fun K hK => ?_) AllReadyH.nil
        go_simp
        refine (refSum_any (B ++ s) V1.drew (by rw [List.length_append]; omega)).mono ?_; rintro e w6 ⟨rfl, k6⟩; have K6 := Lib.hid k6; clear k6
        go_wp2_with fail
        refine hK.out _ _ (⟨hHeld.1.step K6.out (by simp), hHeld.2.step K6.out (by simp)⟩) (fun hHeld2 => ?_)
        clear hK K hHeld
        try simp only [Act.put, List.setIfInBounds_toArray, List.set_cons_zero, List.set_cons_succ, List.getElem_toArray, List.getElem_cons_zero, List.getElem_cons_succ]
        refine wpAnyH_take (i := 7) (v := ?_) rfl (by kernel_rfl) (by kernel_rfl) (by kernel_rfl) (fun _ _ _ h => h) (Or.inl ⟨by rfl, ?_⟩) hHeld2 ?_
        rotate_left
        · intro w hSw
          have hSw1 := hSw
          clear hSw
          try dsimp only at hSw1
          go_simp
          try (with_reducible rfl)
        try simp only [Act.put, List.setIfInBounds_toArray, List.set_cons_zero, List.set_cons_succ, List.getElem_toArray, List.getElem_cons_zero, List.getElem_cons_succ]
        refine wpAnyH_ready (rs := [8]) (by kernel_rfl) (by simp) ?_
        refine AllReadyH.cons rfl (fun K hK => ?_) AllReadyH.nil
        go_simp
        refine (refSum_any (A ++ sha (B ++ s)) w6 (by rw [List.length_append, sha_len]; omega)).mono ?_; rintro e w7 ⟨rfl, k7⟩; have K7 := Lib.hid k7; clear k7
        go_wp2_with fail
        refine hK.out _ _ (⟨hHeld2.1.step K7.out (by simp), hHeld2.2.step K7.out (by simp)⟩) (fun hHeld3 => ?_)
        clear hK K hHeld2
        try simp only [Act.put, List.setIfInBounds_toArray, List.set_cons_zero, List.set_cons_succ, List.getElem_toArray, List.getElem_cons_zero, List.getElem_cons_succ]
        refine wpAnyH_take (i := 9) (v := ?_) rfl (by kernel_rfl) (by kernel_rfl) (by kernel_rfl) (fun _ _ _ h => h) (Or.inl ⟨by rfl, ?_⟩) hHeld3 ?_
        rotate_left
        · intro w hSw
          have hSw1 := hSw
          clear hSw
          try dsimp only at hSw1
          go_simp
          try (with_reducible rfl)
        try simp only [Act.put, List.setIfInBounds_toArray, List.set_cons_zero, List.set_cons_succ, List.getElem_toArray, List.getElem_cons_zero, List.getElem_cons_succ]
        refine wpAnyH_done (by kernel_rfl) ?_ _
        go_wp2_with fail
        have hfin : DD = sha (A ++ sha (B ++ s)) := by rw [hDD.out, macOf, ← HMK.out, ← HA.out.1, ← HA.out.2]
        rw [hfin]
        exact bodyPost_ret (results_tmp rfl _ _ _) rfl ⟨rfl, (hcut.out.2.2.drew.trans K6.out).trans K7.out⟩
  · have hlong' : ¬ (64 : Int) < key.length := by omega
    have e0 : key = mk := by rw [HMK.out, macKey, if_neg hlong]
    clear hmk'
    rw [e0]
    have KW : Hid (Step [] [] w w) := Lib.hid (Step.refl _ _)
    go_enter Tryd.func20, Tryd.ntmps20
    go_upto_region 3 with fail
    go_cut [5, 6] (fun u v wx => ∃ p q : Nat, u = .slice (some ⟨p, 0, none⟩) 64 64 ∧ v = .slice (some ⟨q, 0, none⟩) 64 64 ∧ Hid (p ≠ q ∧ w.heap.size ≤ p ∧ w.heap.size ≤ q ∧ Blk wx p 5 Z ∧ Blk wx q 5 Z ∧ Step [] [] w wx))
    case first =>
      have hWs := Lib.hid KW.out.size
      go_region
      all_goals (go_wp2_with fail)
      all_goals go_meet
      all_goals
        first
        | exact ⟨w.heap.size, w.heap.size + 1, rfl, rfl, Lib.hid ⟨by omega, hWs.out, Nat.le_succ_of_le hWs.out, ((Blk.new w 5 Z).alloc _).drew, by have := (Blk.new (w.alloc (.cells Z 5)) 5 Z).drew; simpa using this, ((KW.out.alloc _).alloc _).drew⟩⟩
        | exact ⟨w.heap.size + 1, w.heap.size, rfl, rfl, Lib.hid ⟨by omega, Nat.le_succ_of_le hWs.out, hWs.out, by have := (Blk.new (w.alloc (.cells Z 5)) 5 Z).drew; simpa using this, ((Blk.new w 5 Z).alloc _).drew, ((KW.out.alloc _).alloc _).drew⟩⟩
    case rest =>
      obtain ⟨p, q, rfl, rfl, HC⟩ := hcut
      rename World => V
      have hpq := Lib.hid (And.intro HC.out.1 (And.intro HC.out.2.1 HC.out.2.2.1))
      have n1 : p ≠ q := HC.out.1
      have n2 : q ≠ p := fun h => n1 h.symm
      obtain ⟨PK, hPK⟩ : ∃ PK, PK = padKey mk := ⟨_, rfl⟩
      have hpl : PK.length = 64 := by rw [hPK]; simp [padKey]; omega
      have hget : ∀ k (h : k < mk.length), PK[k]? = some mk[k] := fun k h => by
        rw [hPK, padKey, List.getElem?_append_left h]; exact List.getElem?_eq_getElem h
      have hzero : ∀ k, mk.length ≤ k → k < 64 → PK[k]? = some 0 := fun k h h2 => by
        rw [hPK, padKey, List.getElem?_append_right h, List.getElem?_replicate, if_pos (by omega)]
      have HPK := Lib.hid (And.intro hPK (And.intro hpl (And.intro hget hzero)))
      clear hPK hpl hget hzero
      have zz : Z = ((((PK.take 0).map (· ^^^ (54 : UInt8))) ++ List.replicate (64 - 0) 0).map bv).toArray := by
        apply Array.ext'
        rw [HZ.out, toList_madeCells_one]; simp [bv]
      have zz2 : Z = ((((PK.take 0).map (· ^^^ (92 : UInt8))) ++ List.replicate (64 - 0) 0).map bv).toArray := by
        apply Array.ext'
        rw [HZ.out, toList_madeCells_one]; simp [bv]
      have HZZ := Lib.hid (And.intro zz zz2)
      clear zz zz2
      go_upto_block 0 with fail
      go_cut [] (fun wx => Hid (Blk wx p 5 ((padBy mk 54).map bv).toArray ∧ Blk wx q 5 ((padBy mk 92).map bv).toArray ∧ Step [] [] w wx))
      case first =>
        go_wp2_with fail
        go_loopw [7] (fun i wr => ∃ k : Nat, k ≤ 64 ∧ i = .int .i64 k ∧ Hid (Blk wr p 5 ((((PK.take k).map (· ^^^ (54 : UInt8))) ++ List.replicate (64 - k) 0).map bv).toArray ∧ Blk wr q 5 ((((PK.take k).map (· ^^^ (92 : UInt8))) ++ List.replicate (64 - k) 0).map bv).toArray ∧ Step [] [] w wr))
          (fun i _ => 64 - (intOf i).toNat)
        case atStart => exact ⟨0, by omega, rfl, by have := HC.out.2.2.2.1; rw [HZZ.out.1] at this; exact this, by have := HC.out.2.2.2.2.1; rw [HZZ.out.2] at this; exact this, HC.out.2.2.2.2.2⟩
        case round =>
          obtain ⟨k, hk', rfl, HW⟩ := hrel
          by_cases hlt : k < 64
          · have hlt' : (k : Int) < 64 := by omega
            have d0 : ∃ u, wr.cell? ⟨p, k, none⟩ = some u := by
              rw [HW.out.1.cell]; exact ⟨_, Array.getElem?_eq_getElem (by simp [HPK.out.2.1]; omega)⟩
            have d1 : ∃ u, wr.cell? ⟨q, k, none⟩ = some u := by
              rw [HW.out.2.1.cell]; exact ⟨_, Array.getElem?_eq_getElem (by simp [HPK.out.2.1]; omega)⟩
            obtain ⟨u0, d0⟩ := d0
            obtain ⟨u1, d1⟩ := d1
            have f0 := HW.out.1.frozen k
            have f1 := HW.out.2.1.frozen k
            by_cases hin : k < mk.length
            · have hin' : (k : Int) < mk.length := by omega
              obtain ⟨c, hc⟩ : ∃ c, mk[k] = c := ⟨_, rfl⟩
              have hcc : Hid (PK[k]? = some c) := by rw [← hc]; exact HPK.out.2.2.1 k hin
              have hx1 : bits BinOp.xor IntKind.u8 (c.toNat : Int) 54 = ((c ^^^ 54).toNat : Int) := xor_byte c 54
              have hx2 : bits BinOp.xor IntKind.u8 (c.toNat : Int) 92 = ((c ^^^ 92).toNat : Int) := xor_byte c 92
              go_wp2_with fail
              go_roundw
              case rel =>
                refine ⟨k + 1, by omega, by go_num, ?_, ?_, (HW.out.2.2.setCell (.inr hpq.out.2.1) _).setCell (.inr hpq.out.2.2) _⟩
                · exact pad_step (HW.out.1.set k _) hlt hcc.out HPK.out.2.1 |>.far n1 _
                · exact pad_step ((HW.out.2.1.far n2 _).set k _) hlt hcc.out HPK.out.2.1
              case measure => simp [intOf]; omega
            · have hin' : ¬ (k : Int) < mk.length := by omega
              have hcc : Hid (PK[k]? = some 0) := HPK.out.2.2.2 k (by omega) hlt
              have hx1 : bits BinOp.xor IntKind.u8 0 54 = (((0 : UInt8) ^^^ 54).toNat : Int) := xor_byte 0 54
              have hx2 : bits BinOp.xor IntKind.u8 0 92 = (((0 : UInt8) ^^^ 92).toNat : Int) := xor_byte 0 92
              go_wp2_with fail
              go_roundw
              case rel =>
                refine ⟨k + 1, by omega, by go_num, ?_, ?_, (HW.out.2.2.setCell (.inr hpq.out.2.1) _).setCell (.inr hpq.out.2.2) _⟩
                · exact pad_step (HW.out.1.set k (bv (0 ^^^ 54))) hlt hcc.out HPK.out.2.1 |>.far n1 _
                · exact pad_step ((HW.out.2.1.far n2 _).set k (bv (0 ^^^ 92))) hlt hcc.out HPK.out.2.1
              case measure => simp [intOf]; omega
          · obtain rfl : k = 64 := by omega
            go_wp2_with fail
            go_meet
            case rel =>
              have hp64 : PK.take 64 = PK := List.take_of_length_le (by rw [HPK.out.2.1]; exact Nat.le_refl _)
              have h1 := HW.out.1
              have h2 := HW.out.2.1
              rw [hp64, Nat.sub_self, List.replicate_zero, List.append_nil, HPK.out.1] at h1 h2
              exact ⟨h1, h2, HW.out.2.2⟩
      case rest =>
        rename World => V1
        have h54 := padBy_len mk 54 hl
        have h92 := padBy_len mk 92 hl
        obtain ⟨A, hA⟩ : ∃ A, A = padBy mk 92 := ⟨_, rfl⟩
        obtain ⟨B, hB⟩ : ∃ B, B = padBy mk 54 := ⟨_, rfl⟩
        rw [← hA, ← hB] at hcut
        rw [← hA] at h92
        rw [← hB] at h54
        have HA := Lib.hid (And.intro hA hB)
        clear hA hB
        have cv1 : ∀ W : World, Blk W q 5 (A.map bv).toArray → (convert 31 9 (.slice (some ⟨q, 0, none⟩) 64 64)).run Tryd.prog W = .ok (Str A) W := fun W h => by
          have hr := h.row (by rw [List.length_map, h92]; unfold maxLen; omega)
          rw [List.length_map, h92] at hr
          exact run_str_of_row 31 9 5 Tryd.underlying31 Tryd.underlying5 Tryd.underlying9 hr
        have cv2 : ∀ W : World, Blk W p 5 (B.map bv).toArray → (convert 31 9 (.slice (some ⟨p, 0, none⟩) 64 64)).run Tryd.prog W = .ok (Str B) W := fun W h => by
          have hr := h.row (by rw [List.length_map, h54]; unfold maxLen; omega)
          rw [List.length_map, h54] at hr
          exact run_str_of_row 31 9 5 Tryd.underlying31 Tryd.underlying5 Tryd.underlying9 hr
        have hle1 : ¬ (9223372036854775807 : Int) < 64 + (s.length : Int) := by omega
        have hle2 : ¬ (9223372036854775807 : Int) < 64 + 32 := by omega
        have hle3 : ¬ 9223372036854775807 < 64 + s.length := by omega
        have hle4 : 64 + s.length ≤ 9223372036854775807 := by omega
        have HS32 := sha_len (B ++ s)
        go_wp2_with fail
        refine wp_region_held_drew (S := fun w => Blk w q 5 (A.map bv).toArray ∧ Blk w p 5 (B.map bv).toArray) (by kernel_rfl) (⟨hcut.out.2.1.drew, hcut.out.1.drew⟩) (fun hHeld => ?_)
        refine wpAnyH_take (i := 0) (v := ?_) rfl (by kernel_rfl) (by kernel_rfl) (by kernel_rfl) (fun _ _ _ h => h) (Or.inl ⟨by rfl, ?_⟩) hHeld ?_
        rotate_left
        · intro w hSw
          have hSw1 := hSw
          clear hSw
          try dsimp only at hSw1
          go_simp
          try (with_reducible rfl)
        try simp only [Act.put, List.setIfInBounds_toArray, List.set_cons_zero, List.set_cons_succ, List.getElem_toArray, List.getElem_cons_zero, List.getElem_cons_succ]
        refine wpAnyH_take (i := 1) (v := ?_) rfl (by kernel_rfl) (by kernel_rfl) (by kernel_rfl) (fun _ _ _ h => h) (Or.inl ⟨by rfl, ?_⟩) hHeld ?_
        rotate_left
        · intro w hSw
          have hSw1 := hSw
          clear hSw
          try dsimp only at hSw1
          go_simp
          try (with_reducible rfl)
        try simp only [Act.put, List.setIfInBounds_toArray, List.set_cons_zero, List.set_cons_succ, List.getElem_toArray, List.getElem_cons_zero, List.getElem_cons_succ]
        refine wpAnyH_take (i := 2) (v := ?_) rfl (by kernel_rfl) (by kernel_rfl) (by kernel_rfl) (fun _ _ _ h => h) (Or.inl ⟨by rfl, ?_⟩) hHeld ?_
        rotate_left
        · intro w hSw
          have hSw1 := hSw
          clear hSw
          try dsimp only at hSw1
          go_simp
          try (with_reducible rfl)
        try simp only [Act.put, List.setIfInBounds_toArray, List.set_cons_zero, List.set_cons_succ, List.getElem_toArray, List.getElem_cons_zero, List.getElem_cons_succ]
        refine wpAnyH_take (i := 3) (v := ?_) rfl (by kernel_rfl) (by kernel_rfl) (by kernel_rfl) (fun _ _ _ h => h) (Or.inl ⟨by rfl, ?_⟩) hHeld ?_
        rotate_left
        · intro w hSw
          have hSw1 := hSw
          clear hSw
          try dsimp only at hSw1
          go_simp
          try (with_reducible rfl)
        try simp only [Act.put, List.setIfInBounds_toArray, List.set_cons_zero, List.set_cons_succ, List.getElem_toArray, List.getElem_cons_zero, List.getElem_cons_succ]
        refine wpAnyH_take (i := 4) (v := ?_) rfl (by kernel_rfl) (by kernel_rfl) (by kernel_rfl) (fun _ _ _ h => h) (Or.inl ⟨by rfl, ?_⟩) hHeld ?_
        rotate_left
        · intro w hSw
          have hSw1 := hSw
          clear hSw
          try dsimp only at hSw1
          go_simp
          try (with_reducible rfl)
        try simp only [Act.put, List.setIfInBounds_toArray, List.set_cons_zero, List.set_cons_succ, List.getElem_toArray, List.getElem_cons_zero, List.getElem_cons_succ]
        refine wpAnyH_take (i := 5) (v := ?_) rfl (by kernel_rfl) (by kernel_rfl) (by kernel_rfl) (fun _ _ _ h => h) (Or.inl ⟨by rfl, ?_⟩) hHeld ?_
        rotate_left
        · intro w hSw
          have hSw1 := hSw
          clear hSw
          try dsimp only at hSw1
          go_simp
          try (with_reducible rfl)
        try simp only [Act.put, List.setIfInBounds_toArray, List.set_cons_zero, List.set_cons_succ, List.getElem_toArray, List.getElem_cons_zero, List.getElem_cons_succ]
        refine wpAnyH_ready (rs := [6]) (by kernel_rfl) (by simp) ?_
        refine AllReadyH.cons rfl (fun K hK => ?_) AllReadyH.nil
        go_simp
        refine (refSum_any (B ++ s) V1.drew (by rw [List.length_append]; omega)).mono ?_; rintro e w6 ⟨rfl, k6⟩; have K6 := Lib.hid k6; clear k6
        go_wp2_with fail
        refine hK.out _ _ (⟨hHeld.1.step K6.out (by simp), hHeld.2.step K6.out (by simp)⟩) (fun hHeld2 => ?_)
        clear hK K hHeld
        try simp only [Act.put, List.setIfInBounds_toArray, List.set_cons_zero, List.set_cons_succ, List.getElem_toArray, List.getElem_cons_zero, List.getElem_cons_succ]
        refine wpAnyH_take (i := 7) (v := ?_) rfl (by kernel_rfl) (by kernel_rfl) (by kernel_rfl) (fun _ _ _ h => h) (Or.inl ⟨by rfl, ?_⟩) hHeld2 ?_
        rotate_left
        · intro w hSw
          have hSw1 := hSw
          clear hSw
          try dsimp only at hSw1
          go_simp
          try (with_reducible rfl)
        try simp only [Act.put, List.setIfInBounds_toArray, List.set_cons_zero, List.set_cons_succ, List.getElem_toArray, List.getElem_cons_zero, List.getElem_cons_succ]
        refine wpAnyH_ready (rs := [8]) (by kernel_rfl) (by simp) ?_
        refine AllReadyH.cons rfl (fun K hK => ?_) AllReadyH.nil
        go_simp
        refine (refSum_any (A ++ sha (B ++ s)) w6 (by rw [List.length_append, sha_len]; omega)).mono ?_; rintro e w7 ⟨rfl, k7⟩; have K7 := Lib.hid k7; clear k7
        go_wp2_with fail
        refine hK.out _ _ (⟨hHeld2.1.step K7.out (by simp), hHeld2.2.step K7.out (by simp)⟩) (fun hHeld3 => ?_)
        clear hK K hHeld2
        try simp only [Act.put, List.setIfInBounds_toArray, List.set_cons_zero, List.set_cons_succ, List.getElem_toArray, List.getElem_cons_zero, List.getElem_cons_succ]
        refine wpAnyH_take (i := 9) (v := ?_) rfl (by kernel_rfl) (by kernel_rfl) (by kernel_rfl) (fun _ _ _ h => h) (Or.inl ⟨by rfl, ?_⟩) hHeld3 ?_
        rotate_left
        · intro w hSw
          have hSw1 := hSw
          clear hSw
          try dsimp only at hSw1
          go_simp
          try (with_reducible rfl)
        try simp only [Act.put, List.setIfInBounds_toArray, List.set_cons_zero, List.set_cons_succ, List.getElem_toArray, List.getElem_cons_zero, List.getElem_cons_succ]
        refine wpAnyH_done (by kernel_rfl) ?_ _
        go_wp2_with fail
        have hfin : DD = sha (A ++ sha (B ++ s)) := by rw [hDD.out, macOf, ← HMK.out, ← HA.out.1, ← HA.out.2]
        rw [hfin]
        exact bodyPost_ret (results_tmp rfl _ _ _) rfl ⟨rfl, (hcut.out.2.2.drew.trans K6.out).trans K7.out⟩
end Go.Proofs.YtoabhjngcajmiaaDoor
