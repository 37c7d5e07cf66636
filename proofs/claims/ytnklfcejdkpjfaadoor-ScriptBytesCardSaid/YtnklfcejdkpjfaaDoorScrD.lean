/-
  Lists of events in memory: SameOps of two like lists; Decode, by the program and by the reference; Encode. Conditions: at most 1000000 of each.
-/
import Derived.Test.YtnklfcejdkpjfaaDoorScrWake
import Derived.Test.YtnklfcejdkpjfaaDoorMem4
import Derived.Test.YtnklfcejdkpjfaaDoorPutL
namespace Go.Proofs.YtnklfcejdkpjfaaDoor
open Go.RowKit Go.ChangeShapes Go.WideShapes Go.ChangeAt
set_option linter.unusedSimpArgs false
set_option linter.unusedVariables false
set_option maxRecDepth 100000

def evcs (l : List Ev) : List Value := l.flatMap evc
theorem evc_len (x : Ev) : (evc x).length = 5 := rfl
theorem evcs_app (l m : List Ev) : evcs (l ++ m) = evcs l ++ evcs m := by simp [evcs]
theorem evcs_one (l : List Ev) : ∀ u ∈ evcs l, u.oneCell' = true := fl_one evc (fun x u hu => by simp [evc] at hu; rcases hu with rfl | rfl | rfl | rfl | rfl <;> rfl) l
theorem rd_ev {w : World} {l : List Ev} {g off : Nat} {sp n} (h : Rd w 5 (some ⟨g, off, sp⟩) n (evcs l)) {k : Nat} {x : Ev} (hx : l[k]? = some x) :
    w.cell? ⟨g, off + k * 5, none⟩ = some (.int .i64 x.k) ∧ w.cell? ⟨g, off + k * 5 + 1, none⟩ = some (.int .i64 x.a) ∧ w.cell? ⟨g, off + k * 5 + 2, none⟩ = some (.int .i64 x.b) ∧ w.cell? ⟨g, off + k * 5 + 3, none⟩ = some (.int .i64 x.c) ∧ w.cell? ⟨g, off + k * 5 + 4, none⟩ = some (.int .i64 x.d) :=
  ⟨rd_fl evc 5 evc_len h hx 0 (by omega) _ rfl, rd_fl evc 5 evc_len h hx 1 (by omega) _ rfl, rd_fl evc 5 evc_len h hx 2 (by omega) _ rfl, rd_fl evc 5 evc_len h hx 3 (by omega) _ rfl, rd_fl evc 5 evc_len h hx 4 (by omega) _ rfl⟩
theorem Tryd.info_ev : (Tryd.prog.info? 23).map (fun i => (i.zero, i.size, i.bytes)) = some (some (.agg #[.int .i64 0, .int .i64 0, .int .i64 0, .int .i64 0, .int .i64 0]), 5, 40) := by kernel_rfl
set_option maxHeartbeats 4000000 in
theorem sameOps_any (l : List Ev) (a1 a2 : Option Addr) (c1 c2 : Nat) (w : World) (h1 : Rd w 5 a1 l.length (evcs l)) (h2 : Rd w 5 a2 l.length (evcs l)) (hl : l.length ≤ 1000000) : Calls Tryd.prog 12 #[.slice a1 l.length c1, .slice a2 l.length c2] w fun e w' => e = .returned (.bool true) ∧ Step [] [] w w' := by
  have H0 := Lib.hid (And.intro h1 h2)
  clear h1 h2
  go_enter Tryd.func12, Tryd.ntmps12
  go_wp2_with fail
  go_loopw [5] (fun v W => ∃ k : Nat, v = .int .i64 k ∧ k ≤ l.length ∧ Hid (Step [] [] w W)) (fun v _ => l.length - (intOf v).toNat)
  case atStart => exact ⟨0, rfl, by omega, Step.refl _ _⟩
  case round =>
    rename World => W
    obtain ⟨k, rfl, hk, HW⟩ := hrel
    by_cases hlt : k < l.length
    · have hlt' : (k : Int) < l.length := by omega
      obtain ⟨e, he⟩ : ∃ e, l[k]? = some e := ⟨_, List.getElem?_eq_getElem hlt⟩
      have r1 := H0.out.1.step0 HW.out
      have r2 := H0.out.2.step0 HW.out
      obtain ⟨g, off, hs1⟩ := r1.some_ (by omega)
      obtain ⟨g2, off2, hs2⟩ := r2.some_ (by omega)
      rw [hs1] at r1
      rw [hs2] at r2
      have q1 := rd_ev r1 he
      have q2 := rd_ev r2 he
      have gl : g < W.heap.size := lt_of_cellS q1.1
      have gl2 : g2 < W.heap.size := lt_of_cellS q2.1
      have hq := ev_neq e
      clear r1 r2 he
      subst hs1 hs2
      go_wp2_with fail
      go_quiet (fail)
      clear hq q1 q2 gl gl2
      go_wp2_with fail
      go_roundw
      case rel => exact ⟨k + 1, by go_num, by omega, HW.out.drewN _⟩
      case measure => simp [intOf]; omega
    · have hnl : ¬ (k : Int) < l.length := by omega
      go_wp2_with fail
      exact bodyPost_ret (results_tmp rfl _ _ _) rfl ⟨rfl, HW.out⟩
/-! ### bytes as events -/
def nb (bs : List UInt8) (j : Nat) : Int := ((bs[j]?.getD 0).toNat : Int)
def evAt (bs : List UInt8) (i : Nat) : Ev := ⟨nb bs (5 * i), nb bs (5 * i + 1), nb bs (5 * i + 2), nb bs (5 * i + 3), nb bs (5 * i + 4)⟩
def evsN (bs : List UInt8) (i : Nat) : List Ev := (List.range i).map (evAt bs)
theorem evsN_succ (bs : List UInt8) (i : Nat) : evsN bs (i + 1) = evsN bs i ++ [evAt bs i] := by simp [evsN, List.range_succ]
theorem evsN_len (bs : List UInt8) (i : Nat) : (evsN bs i).length = i := by simp [evsN]
def cntE (bs : List UInt8) : Nat := min 400 (bs.length / 5)
structure Five (w : World) (g o : Nat) (c0 c1 c2 c3 c4 : UInt8) : Prop where
  lt : g < w.heap.size
  z0 : w.cell? ⟨g, o, none⟩ = some (.int .u8 c0.toNat)
  z1 : w.cell? ⟨g, o + 1, none⟩ = some (.int .u8 c1.toNat)
  z2 : w.cell? ⟨g, o + 2, none⟩ = some (.int .u8 c2.toNat)
  z3 : w.cell? ⟨g, o + 3, none⟩ = some (.int .u8 c3.toNat)
  z4 : w.cell? ⟨g, o + 4, none⟩ = some (.int .u8 c4.toNat)
theorem Five.step {w w' : World} {g o : Nat} {c0 c1 c2 c3 c4 : UInt8} {S S' : List Nat} (h : Five w g o c0 c1 c2 c3 c4) (k : Step S S' w w') (hn : g ∉ S) : Five w' g o c0 c1 c2 c3 c4 :=
  ⟨Nat.lt_of_lt_of_le h.lt k.size, k.cell h.z0 hn, k.cell h.z1 hn, k.cell h.z2 hn, k.cell h.z3 hn, k.cell h.z4 hn⟩
theorem five_of {w : World} {g off n : Nat} {sp} {bs : List UInt8} (h : Rd w 1 (some ⟨g, off, sp⟩) n (bs.map bv)) {i : Nat} (hi : 5 * i + 5 ≤ bs.length) : ∃ c0 c1 c2 c3 c4, Five w g (off + 5 * i) c0 c1 c2 c3 c4 ∧ evc (evAt bs i) = [.int .i64 (c0.toNat : Int), .int .i64 (c1.toNat : Int), .int .i64 (c2.toNat : Int), .int .i64 (c3.toNat : Int), .int .i64 (c4.toNat : Int)] := by
  have key : ∀ j, j < 5 → ∃ c, bs[5 * i + j]? = some c ∧ w.cell? ⟨g, off + 5 * i + j, none⟩ = some (.int .u8 (c.toNat : Int)) := by
    intro j hj
    obtain ⟨c, hc⟩ : ∃ c, bs[5 * i + j]? = some c := ⟨_, List.getElem?_eq_getElem (by omega)⟩
    refine ⟨c, hc, ?_⟩
    rw [Nat.add_assoc]
    exact h.cell g off sp rfl (5 * i + j) _ (by rw [List.getElem?_map, hc]; rfl)
  obtain ⟨c0, e0, z0⟩ := key 0 (by omega)
  obtain ⟨c1, e1, z1⟩ := key 1 (by omega)
  obtain ⟨c2, e2, z2⟩ := key 2 (by omega)
  obtain ⟨c3, e3, z3⟩ := key 3 (by omega)
  obtain ⟨c4, e4, z4⟩ := key 4 (by omega)
  refine ⟨c0, c1, c2, c3, c4, ⟨lt_of_cellS z1, z0, z1, z2, z3, z4⟩, ?_⟩
  rw [Nat.add_zero] at e0
  simp only [evc, evAt, nb, e0, e1, e2, e3, e4, Option.getD_some]
def DecP (bs : List UInt8) (w : World) (e : Ending) (w' : World) : Prop := ∃ oa oc, e = .returned (.slice oa (cntE bs) oc) ∧ Rd w' 5 oa (cntE bs) (evcs (evsN bs (cntE bs))) ∧ Step [] [] w w'
set_option maxHeartbeats 8000000 in
theorem decode_any (bs : List UInt8) (a : Option Addr) (cap : Nat) (w : World) (hr : Rd w 1 a bs.length (bs.map bv)) (hc : bs.length ≤ cap) (hl : bs.length ≤ 1000000) : Calls Tryd.prog 13 #[.slice a bs.length cap] w (DecP bs w) := by
  obtain ⟨i0, hi, hz0, hz1, hz2⟩ := info_parts Tryd.info_ev
  have HI := Lib.hid (And.intro hi (And.intro hz0 (And.intro hz1 hz2)))
  clear hi hz0 hz1 hz2
  have HR := Lib.hid hr
  clear hr
  obtain ⟨B, hB⟩ : ∃ B, B = bs.length := ⟨_, rfl⟩
  rw [← hB] at hc hl ⊢
  have HB := Lib.hid hB
  clear hB
  go_enter Tryd.func13, Tryd.ntmps13
  by_cases h5 : B < 5
  · have h5d : decide (5 ≤ B) = false := decide_eq_false (by omega)
    have h5i : decide ((5 : Int) ≤ (B : Int)) = false := decide_eq_false (by omega)
    have HC : Hid (cntE bs = 0) := Lib.hid (by rw [cntE, ← HB.out]; omega)
    clear h5
    go_wp2_with fail
    refine wp_loop_rounds 1 ?_
    rw [rounds_succ]
    go_wp2_with fail
    exact bodyPost_ret (results_tmp rfl _ _ _) rfl ⟨none, 0, by rw [HC.out] <;> rfl, by rw [HC.out]; exact (Row.none w 5).rd, Step.refl _ _⟩
  · obtain ⟨g, off, hsa⟩ := HR.out.some_ (by rw [← HB.out]; omega)
    subst hsa
    go_wp2_with fail
    go_loopw [0, 3] (fun v0 v3 W => ∃ (i r q : Nat) (ad oa : Option Addr) (oc : Nat), r + 5 * i = B ∧ q + 5 * i = cap ∧ i ≤ 400 ∧ (0 < r → ad = some ⟨g, off + 5 * i, none⟩) ∧ v0 = .slice ad r q ∧ v3 = .slice oa i oc ∧ Hid (Row W 5 oa i oc (evcs (evsN bs i)) ∧ Step [] (blks oa) w W)) (fun v0 _ _ => lenOfS v0)
    case atStart => exact ⟨0, B, cap, some ⟨g, off, none⟩, none, 0, by omega, by omega, by omega, by simp, rfl, rfl, Lib.hid ⟨Row.none w 5, Step.refl _ _⟩⟩
    case round =>
      rename World => W
      obtain ⟨i, r, q, ad, oa, oc, hrB, hqc, hi4, had, rfl, rfl, HW⟩ := hrel
      by_cases hr5 : 5 ≤ r
      · have had2 := had (by omega)
        subst had2
        clear had
        have hrd : decide (5 ≤ r) = true := decide_eq_true hr5
        have hri : decide ((5 : Int) ≤ (r : Int)) = true := decide_eq_true (by omega)
        by_cases hi40 : i < 400
        · have hid4 : decide (i < 400) = true := decide_eq_true hi40
          have hii : decide ((i : Int) < 400) = true := decide_eq_true (by omega)
          obtain ⟨c0, c1, c2, c3, c4, hf, hev⟩ := five_of (HR.out.step0 HW.out.2) (i := i) (by rw [← HB.out]; omega)
          have HGN : Hid (g ∉ blks oa) := Lib.hid (fun hm => by have h0 := (five_of HR.out (i := 0) (by rw [← HB.out]; omega)); obtain ⟨_, _, _, _, _, h1, _⟩ := h0; have h1 := h1.lt; rcases HW.out.2.fresh g hm with h | h; (simp at h); omega)
          have HF : Hid (Five W.drew g (off + 5 * i) c0 c1 c2 c3 c4) := Lib.hid (hf.step ((Step.refl [] W).drew) (by simp))
          have HEV := Lib.hid hev
          clear hf hev
          go_upto_region 3 with fail
          clear hrd hri hid4 hii
          have x0 : 0 < r := by omega
          have x1 : (1 : Int) < (r : Int) := by omega
          have x2 : (2 : Int) < (r : Int) := by omega
          have x3 : (3 : Int) < (r : Int) := by omega
          have x4 : (4 : Int) < (r : Int) := by omega
          refine wp_region_held_drew (S := fun V => Hid (Five V g (off + 5 * i) c0 c1 c2 c3 c4)) (by kernel_rfl) (HF) (fun hHeld => ?_)
          refine wpAnyH_take (i := 0) (v := ?_) rfl (by kernel_rfl) (by kernel_rfl) (by kernel_rfl) (fun _ _ _ h => h) (Or.inl ⟨by rfl, ?_⟩) hHeld ?_
          rotate_left
          · intro w hSw
            have hSw1 := hSw
            clear hSw
            try dsimp only at hSw1
            go_simp
            try (with_reducible rfl)
          try simp only [Act.put, List.setIfInBounds_toArray, List.set_cons_zero, List.set_cons_succ, List.getElem_toArray, List.getElem_cons_zero, List.getElem_cons_succ]
          refine wpAnyH_take (i := 1) (v := ?_) rfl (by kernel_rfl) (by kernel_rfl) (by kernel_rfl) (fun _ _ _ h => h) (Or.inl ⟨by rfl, ?_⟩) hHeld ?_
          rotate_left
          · intro w hSw
            have hSw1 := hSw
            clear hSw
            try dsimp only at hSw1
            go_simp
            try (with_reducible rfl)
          try simp only [Act.put, List.setIfInBounds_toArray, List.set_cons_zero, List.set_cons_succ, List.getElem_toArray, List.getElem_cons_zero, List.getElem_cons_succ]
          refine wpAnyH_take (i := 2) (v := ?_) rfl (by kernel_rfl) (by kernel_rfl) (by kernel_rfl) (fun _ _ _ h => h) (Or.inl ⟨by rfl, ?_⟩) hHeld ?_
          rotate_left
          · intro w hSw
            have hSw1 := hSw
            clear hSw
            try dsimp only at hSw1
            go_simp
            try (with_reducible rfl)
          try simp only [Act.put, List.setIfInBounds_toArray, List.set_cons_zero, List.set_cons_succ, List.getElem_toArray, List.getElem_cons_zero, List.getElem_cons_succ]
          refine wpAnyH_take (i := 3) (v := ?_) rfl (by kernel_rfl) (by kernel_rfl) (by kernel_rfl) (fun _ _ _ h => h) (Or.inl ⟨by rfl, ?_⟩) hHeld ?_
          rotate_left
          · intro w hSw
            have hSw1 := hSw
            clear hSw
            have t0 := hSw1.out.z0
            have tl := hSw1.out.lt
            go_simp
            try (with_reducible rfl)
          try simp only [Act.put, List.setIfInBounds_toArray, List.set_cons_zero, List.set_cons_succ, List.getElem_toArray, List.getElem_cons_zero, List.getElem_cons_succ]
          refine wpAnyH_take (i := 4) (v := ?_) rfl (by kernel_rfl) (by kernel_rfl) (by kernel_rfl) (fun _ _ _ h => h) (Or.inl ⟨by rfl, ?_⟩) hHeld ?_
          rotate_left
          · intro w hSw
            have hSw1 := hSw
            clear hSw
            try dsimp only at hSw1
            go_simp
            try (with_reducible rfl)
          try simp only [Act.put, List.setIfInBounds_toArray, List.set_cons_zero, List.set_cons_succ, List.getElem_toArray, List.getElem_cons_zero, List.getElem_cons_succ]
          refine wpAnyH_take (i := 5) (v := ?_) rfl (by kernel_rfl) (by kernel_rfl) (by kernel_rfl) (fun _ _ _ h => h) (Or.inl ⟨by rfl, ?_⟩) hHeld ?_
          rotate_left
          · intro w hSw
            have hSw1 := hSw
            clear hSw
            try dsimp only at hSw1
            go_simp
            try (with_reducible rfl)
          try simp only [Act.put, List.setIfInBounds_toArray, List.set_cons_zero, List.set_cons_succ, List.getElem_toArray, List.getElem_cons_zero, List.getElem_cons_succ]
          refine wpAnyH_take (i := 6) (v := ?_) rfl (by kernel_rfl) (by kernel_rfl) (by kernel_rfl) (fun _ _ _ h => h) (Or.inl ⟨by rfl, ?_⟩) hHeld ?_
          rotate_left
          · intro w hSw
            have hSw1 := hSw
            clear hSw
            try dsimp only at hSw1
            go_simp
            try (with_reducible rfl)
          try simp only [Act.put, List.setIfInBounds_toArray, List.set_cons_zero, List.set_cons_succ, List.getElem_toArray, List.getElem_cons_zero, List.getElem_cons_succ]
          refine wpAnyH_take (i := 7) (v := ?_) rfl (by kernel_rfl) (by kernel_rfl) (by kernel_rfl) (fun _ _ _ h => h) (Or.inl ⟨by rfl, ?_⟩) hHeld ?_
          rotate_left
          · intro w hSw
            have hSw1 := hSw
            clear hSw
            have t0 := hSw1.out.z1
            have tl := hSw1.out.lt
            go_simp
            try (with_reducible rfl)
          try simp only [Act.put, List.setIfInBounds_toArray, List.set_cons_zero, List.set_cons_succ, List.getElem_toArray, List.getElem_cons_zero, List.getElem_cons_succ]
          refine wpAnyH_take (i := 8) (v := ?_) rfl (by kernel_rfl) (by kernel_rfl) (by kernel_rfl) (fun _ _ _ h => h) (Or.inl ⟨by rfl, ?_⟩) hHeld ?_
          rotate_left
          · intro w hSw
            have hSw1 := hSw
            clear hSw
            try dsimp only at hSw1
            go_simp
            try (with_reducible rfl)
          try simp only [Act.put, List.setIfInBounds_toArray, List.set_cons_zero, List.set_cons_succ, List.getElem_toArray, List.getElem_cons_zero, List.getElem_cons_succ]
          refine wpAnyH_take (i := 9) (v := ?_) rfl (by kernel_rfl) (by kernel_rfl) (by kernel_rfl) (fun _ _ _ h => h) (Or.inl ⟨by rfl, ?_⟩) hHeld ?_
          rotate_left
          · intro w hSw
            have hSw1 := hSw
            clear hSw
            try dsimp only at hSw1
            go_simp
            try (with_reducible rfl)
          try simp only [Act.put, List.setIfInBounds_toArray, List.set_cons_zero, List.set_cons_succ, List.getElem_toArray, List.getElem_cons_zero, List.getElem_cons_succ]
          refine wpAnyH_take (i := 10) (v := ?_) rfl (by kernel_rfl) (by kernel_rfl) (by kernel_rfl) (fun _ _ _ h => h) (Or.inl ⟨by rfl, ?_⟩) hHeld ?_
          rotate_left
          · intro w hSw
            have hSw1 := hSw
            clear hSw
            try dsimp only at hSw1
            go_simp
            try (with_reducible rfl)
          try simp only [Act.put, List.setIfInBounds_toArray, List.set_cons_zero, List.set_cons_succ, List.getElem_toArray, List.getElem_cons_zero, List.getElem_cons_succ]
          refine wpAnyH_take (i := 11) (v := ?_) rfl (by kernel_rfl) (by kernel_rfl) (by kernel_rfl) (fun _ _ _ h => h) (Or.inl ⟨by rfl, ?_⟩) hHeld ?_
          rotate_left
          · intro w hSw
            have hSw1 := hSw
            clear hSw
            have t0 := hSw1.out.z2
            have tl := hSw1.out.lt
            go_simp
            try (with_reducible rfl)
          try simp only [Act.put, List.setIfInBounds_toArray, List.set_cons_zero, List.set_cons_succ, List.getElem_toArray, List.getElem_cons_zero, List.getElem_cons_succ]
          refine wpAnyH_take (i := 12) (v := ?_) rfl (by kernel_rfl) (by kernel_rfl) (by kernel_rfl) (fun _ _ _ h => h) (Or.inl ⟨by rfl, ?_⟩) hHeld ?_
          rotate_left
          · intro w hSw
            have hSw1 := hSw
            clear hSw
            try dsimp only at hSw1
            go_simp
            try (with_reducible rfl)
          try simp only [Act.put, List.setIfInBounds_toArray, List.set_cons_zero, List.set_cons_succ, List.getElem_toArray, List.getElem_cons_zero, List.getElem_cons_succ]
          refine wpAnyH_take (i := 13) (v := ?_) rfl (by kernel_rfl) (by kernel_rfl) (by kernel_rfl) (fun _ _ _ h => h) (Or.inl ⟨by rfl, ?_⟩) hHeld ?_
          rotate_left
          · intro w hSw
            have hSw1 := hSw
            clear hSw
            try dsimp only at hSw1
            go_simp
            try (with_reducible rfl)
          try simp only [Act.put, List.setIfInBounds_toArray, List.set_cons_zero, List.set_cons_succ, List.getElem_toArray, List.getElem_cons_zero, List.getElem_cons_succ]
          refine wpAnyH_take (i := 14) (v := ?_) rfl (by kernel_rfl) (by kernel_rfl) (by kernel_rfl) (fun _ _ _ h => h) (Or.inl ⟨by rfl, ?_⟩) hHeld ?_
          rotate_left
          · intro w hSw
            have hSw1 := hSw
            clear hSw
            try dsimp only at hSw1
            go_simp
            try (with_reducible rfl)
          try simp only [Act.put, List.setIfInBounds_toArray, List.set_cons_zero, List.set_cons_succ, List.getElem_toArray, List.getElem_cons_zero, List.getElem_cons_succ]
          refine wpAnyH_take (i := 15) (v := ?_) rfl (by kernel_rfl) (by kernel_rfl) (by kernel_rfl) (fun _ _ _ h => h) (Or.inl ⟨by rfl, ?_⟩) hHeld ?_
          rotate_left
          · intro w hSw
            have hSw1 := hSw
            clear hSw
            have t0 := hSw1.out.z3
            have tl := hSw1.out.lt
            go_simp
            try (with_reducible rfl)
          try simp only [Act.put, List.setIfInBounds_toArray, List.set_cons_zero, List.set_cons_succ, List.getElem_toArray, List.getElem_cons_zero, List.getElem_cons_succ]
          refine wpAnyH_take (i := 16) (v := ?_) rfl (by kernel_rfl) (by kernel_rfl) (by kernel_rfl) (fun _ _ _ h => h) (Or.inl ⟨by rfl, ?_⟩) hHeld ?_
          rotate_left
          · intro w hSw
            have hSw1 := hSw
            clear hSw
            try dsimp only at hSw1
            go_simp
            try (with_reducible rfl)
          try simp only [Act.put, List.setIfInBounds_toArray, List.set_cons_zero, List.set_cons_succ, List.getElem_toArray, List.getElem_cons_zero, List.getElem_cons_succ]
          refine wpAnyH_take (i := 17) (v := ?_) rfl (by kernel_rfl) (by kernel_rfl) (by kernel_rfl) (fun _ _ _ h => h) (Or.inl ⟨by rfl, ?_⟩) hHeld ?_
          rotate_left
          · intro w hSw
            have hSw1 := hSw
            clear hSw
            try dsimp only at hSw1
            go_simp
            try (with_reducible rfl)
          try simp only [Act.put, List.setIfInBounds_toArray, List.set_cons_zero, List.set_cons_succ, List.getElem_toArray, List.getElem_cons_zero, List.getElem_cons_succ]
          refine wpAnyH_take (i := 18) (v := ?_) rfl (by kernel_rfl) (by kernel_rfl) (by kernel_rfl) (fun _ _ _ h => h) (Or.inl ⟨by rfl, ?_⟩) hHeld ?_
          rotate_left
          · intro w hSw
            have hSw1 := hSw
            clear hSw
            try dsimp only at hSw1
            go_simp
            try (with_reducible rfl)
          try simp only [Act.put, List.setIfInBounds_toArray, List.set_cons_zero, List.set_cons_succ, List.getElem_toArray, List.getElem_cons_zero, List.getElem_cons_succ]
          refine wpAnyH_take (i := 19) (v := ?_) rfl (by kernel_rfl) (by kernel_rfl) (by kernel_rfl) (fun _ _ _ h => h) (Or.inl ⟨by rfl, ?_⟩) hHeld ?_
          rotate_left
          · intro w hSw
            have hSw1 := hSw
            clear hSw
            have t0 := hSw1.out.z4
            have tl := hSw1.out.lt
            go_simp
            try (with_reducible rfl)
          try simp only [Act.put, List.setIfInBounds_toArray, List.set_cons_zero, List.set_cons_succ, List.getElem_toArray, List.getElem_cons_zero, List.getElem_cons_succ]
          refine wpAnyH_take (i := 20) (v := ?_) rfl (by kernel_rfl) (by kernel_rfl) (by kernel_rfl) (fun _ _ _ h => h) (Or.inl ⟨by rfl, ?_⟩) hHeld ?_
          rotate_left
          · intro w hSw
            have hSw1 := hSw
            clear hSw
            try dsimp only at hSw1
            go_simp
            try (with_reducible rfl)
          try simp only [Act.put, List.setIfInBounds_toArray, List.set_cons_zero, List.set_cons_succ, List.getElem_toArray, List.getElem_cons_zero, List.getElem_cons_succ]
          refine wpAnyH_take (i := 21) (v := ?_) rfl (by kernel_rfl) (by kernel_rfl) (by kernel_rfl) (fun _ _ _ h => h) (Or.inl ⟨by rfl, ?_⟩) hHeld ?_
          rotate_left
          · intro w hSw
            have hSw1 := hSw
            clear hSw
            try dsimp only at hSw1
            go_simp
            try (with_reducible rfl)
          try simp only [Act.put, List.setIfInBounds_toArray, List.set_cons_zero, List.set_cons_succ, List.getElem_toArray, List.getElem_cons_zero, List.getElem_cons_succ]
          refine wpAnyH_ready (rs := [22]) (by kernel_rfl) (by simp) ?_
          refine AllReadyH.cons rfl (fun K hK => ?_) AllReadyH.nil
          go_simp
          skip
          go_wp2_with fail
          refine hK.out _ _ (Lib.hid (hHeld.out.step ((Step.refl [] W.drew).alloc _) (by simp))) (fun hHeld2 => ?_)
          clear hK K hHeld
          try simp only [Act.put, List.setIfInBounds_toArray, List.set_cons_zero, List.set_cons_succ, List.getElem_toArray, List.getElem_cons_zero, List.getElem_cons_succ]
          refine wpAnyH_ready (rs := [23]) (by kernel_rfl) (by simp) ?_
          refine AllReadyH.cons rfl (fun K hK => ?_) AllReadyH.nil
          refine step_append_row rfl (.tmp 12) (.tmp 34) 33 33 rfl 23 i0 _ 5 40 Tryd.underlying33 HI.out.1 HI.out.2.1 HI.out.2.2.1 HI.out.2.2.2 rfl rfl ((HW.out.1.drew).alloc _) rfl (Src.rd 33 23 Tryd.underlying33 (rd_blk' (xs := evcs [evAt bs i]) (by have hq := (Blk.new W 23 (evc (evAt bs i)).toArray).drew; rw [HEV.out] at hq; simpa [evcs, HEV.out] using hq) 5 1 rfl) (evcs_one _)) (by unfold maxLen; omega) (by omega) (by omega) ?_; intro a9 c9 w9 hr9 st9; have H9 := Lib.hid (And.intro hr9 st9); clear hr9 st9
          refine hK.out _ _ (Lib.hid ((HF.out.step ((Step.refl [] W.drew).alloc _) (by simp)).step H9.out.2 HGN.out)) (fun hHeld3 => ?_)
          clear hK K hHeld2
          try simp only [Act.put, List.setIfInBounds_toArray, List.set_cons_zero, List.set_cons_succ, List.getElem_toArray, List.getElem_cons_zero, List.getElem_cons_succ]
          refine wpAnyH_take (i := 24) (v := ?_) rfl (by kernel_rfl) (by kernel_rfl) (by kernel_rfl) (fun _ _ _ h => h) (Or.inl ⟨by rfl, ?_⟩) hHeld3 ?_
          rotate_left
          · intro w hSw
            have hSw1 := hSw
            clear hSw
            try dsimp only at hSw1
            go_simp
            try (with_reducible rfl)
          try simp only [Act.put, List.setIfInBounds_toArray, List.set_cons_zero, List.set_cons_succ, List.getElem_toArray, List.getElem_cons_zero, List.getElem_cons_succ]
          refine wpAnyH_done (by kernel_rfl) ?_ _
          have HNX : Hid (Row w9 5 a9 (i + 1) c9 (evcs (evsN bs (i + 1))) ∧ Step [] (blks a9) w w9) := Lib.hid ⟨by rw [evsN_succ, evcs_app]; exact H9.out.1, ((HW.out.2.drew).alloc _).trans H9.out.2⟩
          clear H9 HW HF
          go_wp2_with fail
          go_roundw
          case rel => exact ⟨i + 1, r - 5, q - 5, _, a9, c9, by omega, by omega, by omega, (by intro hp; rw [if_neg (by omega), show off + 5 * (i + 1) = off + 5 * i + 5 by omega]), rfl, rfl, HNX⟩
          case measure => simp [lenOfS]; omega
        · have hid4 : decide (i < 400) = false := decide_eq_false hi40
          have hii : decide ((i : Int) < 400) = false := decide_eq_false (by omega)
          have HC : Hid (cntE bs = i) := Lib.hid (by rw [cntE, ← HB.out]; omega)
          go_wp2_with fail
          exact bodyPost_ret (results_tmp rfl _ _ _) rfl ⟨oa, oc, by rw [HC.out] <;> rfl, by rw [HC.out]; exact HW.out.1.rd, HW.out.2.drop (by simp)⟩
      · have hrd : decide (5 ≤ r) = false := decide_eq_false hr5
        have hri : decide ((5 : Int) ≤ (r : Int)) = false := decide_eq_false (by omega)
        have HC : Hid (cntE bs = i) := Lib.hid (by rw [cntE, ← HB.out]; omega)
        go_wp2_with fail
        exact bodyPost_ret (results_tmp rfl _ _ _) rfl ⟨oa, oc, by rw [HC.out] <;> rfl, by rw [HC.out]; exact HW.out.1.rd, HW.out.2.drop (by simp)⟩
set_option maxHeartbeats 8000000 in
theorem refDecode_any (bs : List UInt8) (a : Option Addr) (cap : Nat) (w : World) (hr : Rd w 1 a bs.length (bs.map bv)) (hl : bs.length ≤ 1000000) : Calls Tryd.prog 14 #[.slice a bs.length cap] w (DecP bs w) := by
  obtain ⟨i0, hi, hz0, hz1, hz2⟩ := info_parts Tryd.info_ev
  have HI := Lib.hid (And.intro hi (And.intro hz0 (And.intro hz1 hz2)))
  clear hi hz0 hz1 hz2
  have HR := Lib.hid hr
  clear hr
  obtain ⟨B, hB⟩ : ∃ B, B = bs.length := ⟨_, rfl⟩
  rw [← hB] at hl ⊢
  have HB := Lib.hid hB
  clear hB
  go_enter Tryd.func14, Tryd.ntmps14
  go_wp2_with fail
  go_loopw [3, 4] (fun v3 v4 W => ∃ (i : Nat) (oa : Option Addr) (oc : Nat), 5 * i ≤ B ∧ i ≤ 400 ∧ v4 = .int .i64 i ∧ v3 = .slice oa i oc ∧ Hid (Row W 5 oa i oc (evcs (evsN bs i)) ∧ Step [] (blks oa) w W)) (fun _ v _ => 400 - (intOf v).toNat)
  case atStart => exact ⟨0, some ⟨w.heap.size, 0, none⟩, 0, by omega, by omega, rfl, rfl, Lib.hid ⟨Row.empty w _ 5, by have := (Step.refl [] w).hold (.cells #[] 23); simpa [blks] using this⟩⟩
  case round =>
    rename World => W
    obtain ⟨i, oa, oc, hiB, hi4, rfl, rfl, HW⟩ := hrel
    by_cases hi40 : i < 400
    · have hid4 : decide (i < 400) = true := decide_eq_true hi40
      have hii : decide ((i : Int) < 400) = true := decide_eq_true (by omega)
      by_cases h5 : 5 * i + 5 ≤ B
      · have h5d : decide (5 * i + 5 ≤ B) = true := decide_eq_true h5
        have h5i : decide (5 * (i : Int) + 5 ≤ (B : Int)) = true := decide_eq_true (by omega)
        obtain ⟨g, off, hsa⟩ := HR.out.some_ (by rw [← HB.out]; omega)
        have hr2 := HR.out
        rw [hsa] at hr2
        obtain ⟨c0, c1, c2, c3, c4, hf, hev⟩ := five_of (hr2.step0 HW.out.2) (i := i) (by rw [← HB.out]; omega)
        have HGN : Hid (g ∉ blks oa) := Lib.hid (fun hm => by have h0 := (five_of hr2 (i := 0) (by rw [← HB.out]; omega)); obtain ⟨_, _, _, _, _, h1, _⟩ := h0; have h1 := h1.lt; rcases HW.out.2.fresh g hm with h | h; (simp at h); omega)
        have HF : Hid (Five W.drew g (off + 5 * i) c0 c1 c2 c3 c4) := Lib.hid (hf.step ((Step.refl [] W).drew) (by simp))
        have HEV := Lib.hid hev
        have HSA := Lib.hid hsa
        rw [hsa]
        clear hf hev hr2 hsa
        go_upto_region 5 with fail
        clear hid4 hii h5d h5i
        have z0 : IntKind.i64.wrap (5 * (i : Int)) = 5 * (i : Int) := IntWalk.i64_in _ (by omega)
        have w0 : (0 : Int) ≤ 5 * (i : Int) := by omega
        have v0 : (5 * (i : Int)).toNat = 5 * i := by omega
        have z1 : IntKind.i64.wrap (5 * (i : Int) + 1) = 5 * (i : Int) + 1 := IntWalk.i64_in _ (by omega)
        have w1 : (0 : Int) ≤ 5 * (i : Int) + 1 := by omega
        have v1 : (5 * (i : Int) + 1).toNat = 5 * i + 1 := by omega
        have z2 : IntKind.i64.wrap (5 * (i : Int) + 2) = 5 * (i : Int) + 2 := IntWalk.i64_in _ (by omega)
        have w2 : (0 : Int) ≤ 5 * (i : Int) + 2 := by omega
        have v2 : (5 * (i : Int) + 2).toNat = 5 * i + 2 := by omega
        have z3 : IntKind.i64.wrap (5 * (i : Int) + 3) = 5 * (i : Int) + 3 := IntWalk.i64_in _ (by omega)
        have w3 : (0 : Int) ≤ 5 * (i : Int) + 3 := by omega
        have v3 : (5 * (i : Int) + 3).toNat = 5 * i + 3 := by omega
        have z4 : IntKind.i64.wrap (5 * (i : Int) + 4) = 5 * (i : Int) + 4 := IntWalk.i64_in _ (by omega)
        have w4 : (0 : Int) ≤ 5 * (i : Int) + 4 := by omega
        have v4 : (5 * (i : Int) + 4).toNat = 5 * i + 4 := by omega
        have x0 : 5 * i < B := by omega
        have x1 : 5 * i + 1 < B := by omega
        have x2 : 5 * i + 2 < B := by omega
        have x3 : 5 * i + 3 < B := by omega
        have x4 : 5 * i + 4 < B := by omega
        have y0 : 5 * (i : Int) < B := by omega
        have y1 : 5 * (i : Int) + 1 < B := by omega
        have y2 : 5 * (i : Int) + 2 < B := by omega
        have y3 : 5 * (i : Int) + 3 < B := by omega
        have y4 : 5 * (i : Int) + 4 < B := by omega
        refine wp_region_held_drew (S := fun V => Hid (Five V g (off + 5 * i) c0 c1 c2 c3 c4)) (by kernel_rfl) (HF) (fun hHeld => ?_)
        refine wpAnyH_take (i := 0) (v := ?_) rfl (by kernel_rfl) (by kernel_rfl) (by kernel_rfl) (fun _ _ _ h => h) (Or.inl ⟨by rfl, ?_⟩) hHeld ?_
        rotate_left
        · intro w hSw
          have hSw1 := hSw
          clear hSw
          try dsimp only at hSw1
          go_simp
          try (with_reducible rfl)
        try simp only [Act.put, List.setIfInBounds_toArray, List.set_cons_zero, List.set_cons_succ, List.getElem_toArray, List.getElem_cons_zero, List.getElem_cons_succ]
        refine wpAnyH_take (i := 1) (v := ?_) rfl (by kernel_rfl) (by kernel_rfl) (by kernel_rfl) (fun _ _ _ h => h) (Or.inl ⟨by rfl, ?_⟩) hHeld ?_
        rotate_left
        · intro w hSw
          have hSw1 := hSw
          clear hSw
          try dsimp only at hSw1
          go_simp
          try (with_reducible rfl)
        try simp only [Act.put, List.setIfInBounds_toArray, List.set_cons_zero, List.set_cons_succ, List.getElem_toArray, List.getElem_cons_zero, List.getElem_cons_succ]
        refine wpAnyH_take (i := 2) (v := ?_) rfl (by kernel_rfl) (by kernel_rfl) (by kernel_rfl) (fun _ _ _ h => h) (Or.inl ⟨by rfl, ?_⟩) hHeld ?_
        rotate_left
        · intro w hSw
          have hSw1 := hSw
          clear hSw
          try dsimp only at hSw1
          go_simp
          try (with_reducible rfl)
        try simp only [Act.put, List.setIfInBounds_toArray, List.set_cons_zero, List.set_cons_succ, List.getElem_toArray, List.getElem_cons_zero, List.getElem_cons_succ]
        refine wpAnyH_take (i := 3) (v := ?_) rfl (by kernel_rfl) (by kernel_rfl) (by kernel_rfl) (fun _ _ _ h => h) (Or.inl ⟨by rfl, ?_⟩) hHeld ?_
        rotate_left
        · intro w hSw
          have hSw1 := hSw
          clear hSw
          try dsimp only at hSw1
          go_simp
          try (with_reducible rfl)
        try simp only [Act.put, List.setIfInBounds_toArray, List.set_cons_zero, List.set_cons_succ, List.getElem_toArray, List.getElem_cons_zero, List.getElem_cons_succ]
        refine wpAnyH_take (i := 4) (v := ?_) rfl (by kernel_rfl) (by kernel_rfl) (by kernel_rfl) (fun _ _ _ h => h) (Or.inl ⟨by rfl, ?_⟩) hHeld ?_
        rotate_left
        · intro w hSw
          have hSw1 := hSw
          clear hSw
          try dsimp only at hSw1
          go_simp
          try (with_reducible rfl)
        try simp only [Act.put, List.setIfInBounds_toArray, List.set_cons_zero, List.set_cons_succ, List.getElem_toArray, List.getElem_cons_zero, List.getElem_cons_succ]
        refine wpAnyH_take (i := 5) (v := ?_) rfl (by kernel_rfl) (by kernel_rfl) (by kernel_rfl) (fun _ _ _ h => h) (Or.inl ⟨by rfl, ?_⟩) hHeld ?_
        rotate_left
        · intro w hSw
          have hSw1 := hSw
          clear hSw
          have t0 := hSw1.out.z0
          have tl := hSw1.out.lt
          go_simp
          try (with_reducible rfl)
        try simp only [Act.put, List.setIfInBounds_toArray, List.set_cons_zero, List.set_cons_succ, List.getElem_toArray, List.getElem_cons_zero, List.getElem_cons_succ]
        refine wpAnyH_take (i := 6) (v := ?_) rfl (by kernel_rfl) (by kernel_rfl) (by kernel_rfl) (fun _ _ _ h => h) (Or.inl ⟨by rfl, ?_⟩) hHeld ?_
        rotate_left
        · intro w hSw
          have hSw1 := hSw
          clear hSw
          try dsimp only at hSw1
          go_simp
          try (with_reducible rfl)
        try simp only [Act.put, List.setIfInBounds_toArray, List.set_cons_zero, List.set_cons_succ, List.getElem_toArray, List.getElem_cons_zero, List.getElem_cons_succ]
        refine wpAnyH_take (i := 7) (v := ?_) rfl (by kernel_rfl) (by kernel_rfl) (by kernel_rfl) (fun _ _ _ h => h) (Or.inl ⟨by rfl, ?_⟩) hHeld ?_
        rotate_left
        · intro w hSw
          have hSw1 := hSw
          clear hSw
          try dsimp only at hSw1
          go_simp
          try (with_reducible rfl)
        try simp only [Act.put, List.setIfInBounds_toArray, List.set_cons_zero, List.set_cons_succ, List.getElem_toArray, List.getElem_cons_zero, List.getElem_cons_succ]
        refine wpAnyH_take (i := 8) (v := ?_) rfl (by kernel_rfl) (by kernel_rfl) (by kernel_rfl) (fun _ _ _ h => h) (Or.inl ⟨by rfl, ?_⟩) hHeld ?_
        rotate_left
        · intro w hSw
          have hSw1 := hSw
          clear hSw
          try dsimp only at hSw1
          go_simp
          try (with_reducible rfl)
        try simp only [Act.put, List.setIfInBounds_toArray, List.set_cons_zero, List.set_cons_succ, List.getElem_toArray, List.getElem_cons_zero, List.getElem_cons_succ]
        refine wpAnyH_take (i := 9) (v := ?_) rfl (by kernel_rfl) (by kernel_rfl) (by kernel_rfl) (fun _ _ _ h => h) (Or.inl ⟨by rfl, ?_⟩) hHeld ?_
        rotate_left
        · intro w hSw
          have hSw1 := hSw
          clear hSw
          try dsimp only at hSw1
          go_simp
          try (with_reducible rfl)
        try simp only [Act.put, List.setIfInBounds_toArray, List.set_cons_zero, List.set_cons_succ, List.getElem_toArray, List.getElem_cons_zero, List.getElem_cons_succ]
        refine wpAnyH_take (i := 10) (v := ?_) rfl (by kernel_rfl) (by kernel_rfl) (by kernel_rfl) (fun _ _ _ h => h) (Or.inl ⟨by rfl, ?_⟩) hHeld ?_
        rotate_left
        · intro w hSw
          have hSw1 := hSw
          clear hSw
          try dsimp only at hSw1
          go_simp
          try (with_reducible rfl)
        try simp only [Act.put, List.setIfInBounds_toArray, List.set_cons_zero, List.set_cons_succ, List.getElem_toArray, List.getElem_cons_zero, List.getElem_cons_succ]
        refine wpAnyH_take (i := 11) (v := ?_) rfl (by kernel_rfl) (by kernel_rfl) (by kernel_rfl) (fun _ _ _ h => h) (Or.inl ⟨by rfl, ?_⟩) hHeld ?_
        rotate_left
        · intro w hSw
          have hSw1 := hSw
          clear hSw
          try dsimp only at hSw1
          go_simp
          try (with_reducible rfl)
        try simp only [Act.put, List.setIfInBounds_toArray, List.set_cons_zero, List.set_cons_succ, List.getElem_toArray, List.getElem_cons_zero, List.getElem_cons_succ]
        refine wpAnyH_take (i := 12) (v := ?_) rfl (by kernel_rfl) (by kernel_rfl) (by kernel_rfl) (fun _ _ _ h => h) (Or.inl ⟨by rfl, ?_⟩) hHeld ?_
        rotate_left
        · intro w hSw
          have hSw1 := hSw
          clear hSw
          have t0 := hSw1.out.z1
          have tl := hSw1.out.lt
          rw [show off + 5 * i + 1 = off + (5 * i + 1) by omega] at t0
          go_simp
          try (with_reducible rfl)
        try simp only [Act.put, List.setIfInBounds_toArray, List.set_cons_zero, List.set_cons_succ, List.getElem_toArray, List.getElem_cons_zero, List.getElem_cons_succ]
        refine wpAnyH_take (i := 13) (v := ?_) rfl (by kernel_rfl) (by kernel_rfl) (by kernel_rfl) (fun _ _ _ h => h) (Or.inl ⟨by rfl, ?_⟩) hHeld ?_
        rotate_left
        · intro w hSw
          have hSw1 := hSw
          clear hSw
          try dsimp only at hSw1
          go_simp
          try (with_reducible rfl)
        try simp only [Act.put, List.setIfInBounds_toArray, List.set_cons_zero, List.set_cons_succ, List.getElem_toArray, List.getElem_cons_zero, List.getElem_cons_succ]
        refine wpAnyH_take (i := 14) (v := ?_) rfl (by kernel_rfl) (by kernel_rfl) (by kernel_rfl) (fun _ _ _ h => h) (Or.inl ⟨by rfl, ?_⟩) hHeld ?_
        rotate_left
        · intro w hSw
          have hSw1 := hSw
          clear hSw
          try dsimp only at hSw1
          go_simp
          try (with_reducible rfl)
        try simp only [Act.put, List.setIfInBounds_toArray, List.set_cons_zero, List.set_cons_succ, List.getElem_toArray, List.getElem_cons_zero, List.getElem_cons_succ]
        refine wpAnyH_take (i := 15) (v := ?_) rfl (by kernel_rfl) (by kernel_rfl) (by kernel_rfl) (fun _ _ _ h => h) (Or.inl ⟨by rfl, ?_⟩) hHeld ?_
        rotate_left
        · intro w hSw
          have hSw1 := hSw
          clear hSw
          try dsimp only at hSw1
          go_simp
          try (with_reducible rfl)
        try simp only [Act.put, List.setIfInBounds_toArray, List.set_cons_zero, List.set_cons_succ, List.getElem_toArray, List.getElem_cons_zero, List.getElem_cons_succ]
        refine wpAnyH_take (i := 16) (v := ?_) rfl (by kernel_rfl) (by kernel_rfl) (by kernel_rfl) (fun _ _ _ h => h) (Or.inl ⟨by rfl, ?_⟩) hHeld ?_
        rotate_left
        · intro w hSw
          have hSw1 := hSw
          clear hSw
          try dsimp only at hSw1
          go_simp
          try (with_reducible rfl)
        try simp only [Act.put, List.setIfInBounds_toArray, List.set_cons_zero, List.set_cons_succ, List.getElem_toArray, List.getElem_cons_zero, List.getElem_cons_succ]
        refine wpAnyH_take (i := 17) (v := ?_) rfl (by kernel_rfl) (by kernel_rfl) (by kernel_rfl) (fun _ _ _ h => h) (Or.inl ⟨by rfl, ?_⟩) hHeld ?_
        rotate_left
        · intro w hSw
          have hSw1 := hSw
          clear hSw
          try dsimp only at hSw1
          go_simp
          try (with_reducible rfl)
        try simp only [Act.put, List.setIfInBounds_toArray, List.set_cons_zero, List.set_cons_succ, List.getElem_toArray, List.getElem_cons_zero, List.getElem_cons_succ]
        refine wpAnyH_take (i := 18) (v := ?_) rfl (by kernel_rfl) (by kernel_rfl) (by kernel_rfl) (fun _ _ _ h => h) (Or.inl ⟨by rfl, ?_⟩) hHeld ?_
        rotate_left
        · intro w hSw
          have hSw1 := hSw
          clear hSw
          try dsimp only at hSw1
          go_simp
          try (with_reducible rfl)
        try simp only [Act.put, List.setIfInBounds_toArray, List.set_cons_zero, List.set_cons_succ, List.getElem_toArray, List.getElem_cons_zero, List.getElem_cons_succ]
        refine wpAnyH_take (i := 19) (v := ?_) rfl (by kernel_rfl) (by kernel_rfl) (by kernel_rfl) (fun _ _ _ h => h) (Or.inl ⟨by rfl, ?_⟩) hHeld ?_
        rotate_left
        · intro w hSw
          have hSw1 := hSw
          clear hSw
          have t0 := hSw1.out.z2
          have tl := hSw1.out.lt
          rw [show off + 5 * i + 2 = off + (5 * i + 2) by omega] at t0
          go_simp
          try (with_reducible rfl)
        try simp only [Act.put, List.setIfInBounds_toArray, List.set_cons_zero, List.set_cons_succ, List.getElem_toArray, List.getElem_cons_zero, List.getElem_cons_succ]
        refine wpAnyH_take (i := 20) (v := ?_) rfl (by kernel_rfl) (by kernel_rfl) (by kernel_rfl) (fun _ _ _ h => h) (Or.inl ⟨by rfl, ?_⟩) hHeld ?_
        rotate_left
        · intro w hSw
          have hSw1 := hSw
          clear hSw
          try dsimp only at hSw1
          go_simp
          try (with_reducible rfl)
        try simp only [Act.put, List.setIfInBounds_toArray, List.set_cons_zero, List.set_cons_succ, List.getElem_toArray, List.getElem_cons_zero, List.getElem_cons_succ]
        refine wpAnyH_take (i := 21) (v := ?_) rfl (by kernel_rfl) (by kernel_rfl) (by kernel_rfl) (fun _ _ _ h => h) (Or.inl ⟨by rfl, ?_⟩) hHeld ?_
        rotate_left
        · intro w hSw
          have hSw1 := hSw
          clear hSw
          try dsimp only at hSw1
          go_simp
          try (with_reducible rfl)
        try simp only [Act.put, List.setIfInBounds_toArray, List.set_cons_zero, List.set_cons_succ, List.getElem_toArray, List.getElem_cons_zero, List.getElem_cons_succ]
        refine wpAnyH_take (i := 22) (v := ?_) rfl (by kernel_rfl) (by kernel_rfl) (by kernel_rfl) (fun _ _ _ h => h) (Or.inl ⟨by rfl, ?_⟩) hHeld ?_
        rotate_left
        · intro w hSw
          have hSw1 := hSw
          clear hSw
          try dsimp only at hSw1
          go_simp
          try (with_reducible rfl)
        try simp only [Act.put, List.setIfInBounds_toArray, List.set_cons_zero, List.set_cons_succ, List.getElem_toArray, List.getElem_cons_zero, List.getElem_cons_succ]
        refine wpAnyH_take (i := 23) (v := ?_) rfl (by kernel_rfl) (by kernel_rfl) (by kernel_rfl) (fun _ _ _ h => h) (Or.inl ⟨by rfl, ?_⟩) hHeld ?_
        rotate_left
        · intro w hSw
          have hSw1 := hSw
          clear hSw
          try dsimp only at hSw1
          go_simp
          try (with_reducible rfl)
        try simp only [Act.put, List.setIfInBounds_toArray, List.set_cons_zero, List.set_cons_succ, List.getElem_toArray, List.getElem_cons_zero, List.getElem_cons_succ]
        refine wpAnyH_take (i := 24) (v := ?_) rfl (by kernel_rfl) (by kernel_rfl) (by kernel_rfl) (fun _ _ _ h => h) (Or.inl ⟨by rfl, ?_⟩) hHeld ?_
        rotate_left
        · intro w hSw
          have hSw1 := hSw
          clear hSw
          try dsimp only at hSw1
          go_simp
          try (with_reducible rfl)
        try simp only [Act.put, List.setIfInBounds_toArray, List.set_cons_zero, List.set_cons_succ, List.getElem_toArray, List.getElem_cons_zero, List.getElem_cons_succ]
        refine wpAnyH_take (i := 25) (v := ?_) rfl (by kernel_rfl) (by kernel_rfl) (by kernel_rfl) (fun _ _ _ h => h) (Or.inl ⟨by rfl, ?_⟩) hHeld ?_
        rotate_left
        · intro w hSw
          have hSw1 := hSw
          clear hSw
          try dsimp only at hSw1
          go_simp
          try (with_reducible rfl)
        try simp only [Act.put, List.setIfInBounds_toArray, List.set_cons_zero, List.set_cons_succ, List.getElem_toArray, List.getElem_cons_zero, List.getElem_cons_succ]
        refine wpAnyH_take (i := 26) (v := ?_) rfl (by kernel_rfl) (by kernel_rfl) (by kernel_rfl) (fun _ _ _ h => h) (Or.inl ⟨by rfl, ?_⟩) hHeld ?_
        rotate_left
        · intro w hSw
          have hSw1 := hSw
          clear hSw
          have t0 := hSw1.out.z3
          have tl := hSw1.out.lt
          rw [show off + 5 * i + 3 = off + (5 * i + 3) by omega] at t0
          go_simp
          try (with_reducible rfl)
        try simp only [Act.put, List.setIfInBounds_toArray, List.set_cons_zero, List.set_cons_succ, List.getElem_toArray, List.getElem_cons_zero, List.getElem_cons_succ]
        refine wpAnyH_take (i := 27) (v := ?_) rfl (by kernel_rfl) (by kernel_rfl) (by kernel_rfl) (fun _ _ _ h => h) (Or.inl ⟨by rfl, ?_⟩) hHeld ?_
        rotate_left
        · intro w hSw
          have hSw1 := hSw
          clear hSw
          try dsimp only at hSw1
          go_simp
          try (with_reducible rfl)
        try simp only [Act.put, List.setIfInBounds_toArray, List.set_cons_zero, List.set_cons_succ, List.getElem_toArray, List.getElem_cons_zero, List.getElem_cons_succ]
        refine wpAnyH_take (i := 28) (v := ?_) rfl (by kernel_rfl) (by kernel_rfl) (by kernel_rfl) (fun _ _ _ h => h) (Or.inl ⟨by rfl, ?_⟩) hHeld ?_
        rotate_left
        · intro w hSw
          have hSw1 := hSw
          clear hSw
          try dsimp only at hSw1
          go_simp
          try (with_reducible rfl)
        try simp only [Act.put, List.setIfInBounds_toArray, List.set_cons_zero, List.set_cons_succ, List.getElem_toArray, List.getElem_cons_zero, List.getElem_cons_succ]
        refine wpAnyH_take (i := 29) (v := ?_) rfl (by kernel_rfl) (by kernel_rfl) (by kernel_rfl) (fun _ _ _ h => h) (Or.inl ⟨by rfl, ?_⟩) hHeld ?_
        rotate_left
        · intro w hSw
          have hSw1 := hSw
          clear hSw
          try dsimp only at hSw1
          go_simp
          try (with_reducible rfl)
        try simp only [Act.put, List.setIfInBounds_toArray, List.set_cons_zero, List.set_cons_succ, List.getElem_toArray, List.getElem_cons_zero, List.getElem_cons_succ]
        refine wpAnyH_take (i := 30) (v := ?_) rfl (by kernel_rfl) (by kernel_rfl) (by kernel_rfl) (fun _ _ _ h => h) (Or.inl ⟨by rfl, ?_⟩) hHeld ?_
        rotate_left
        · intro w hSw
          have hSw1 := hSw
          clear hSw
          try dsimp only at hSw1
          go_simp
          try (with_reducible rfl)
        try simp only [Act.put, List.setIfInBounds_toArray, List.set_cons_zero, List.set_cons_succ, List.getElem_toArray, List.getElem_cons_zero, List.getElem_cons_succ]
        refine wpAnyH_take (i := 31) (v := ?_) rfl (by kernel_rfl) (by kernel_rfl) (by kernel_rfl) (fun _ _ _ h => h) (Or.inl ⟨by rfl, ?_⟩) hHeld ?_
        rotate_left
        · intro w hSw
          have hSw1 := hSw
          clear hSw
          try dsimp only at hSw1
          go_simp
          try (with_reducible rfl)
        try simp only [Act.put, List.setIfInBounds_toArray, List.set_cons_zero, List.set_cons_succ, List.getElem_toArray, List.getElem_cons_zero, List.getElem_cons_succ]
        refine wpAnyH_take (i := 32) (v := ?_) rfl (by kernel_rfl) (by kernel_rfl) (by kernel_rfl) (fun _ _ _ h => h) (Or.inl ⟨by rfl, ?_⟩) hHeld ?_
        rotate_left
        · intro w hSw
          have hSw1 := hSw
          clear hSw
          try dsimp only at hSw1
          go_simp
          try (with_reducible rfl)
        try simp only [Act.put, List.setIfInBounds_toArray, List.set_cons_zero, List.set_cons_succ, List.getElem_toArray, List.getElem_cons_zero, List.getElem_cons_succ]
        refine wpAnyH_take (i := 33) (v := ?_) rfl (by kernel_rfl) (by kernel_rfl) (by kernel_rfl) (fun _ _ _ h => h) (Or.inl ⟨by rfl, ?_⟩) hHeld ?_
        rotate_left
        · intro w hSw
          have hSw1 := hSw
          clear hSw
          have t0 := hSw1.out.z4
          have tl := hSw1.out.lt
          rw [show off + 5 * i + 4 = off + (5 * i + 4) by omega] at t0
          go_simp
          try (with_reducible rfl)
        try simp only [Act.put, List.setIfInBounds_toArray, List.set_cons_zero, List.set_cons_succ, List.getElem_toArray, List.getElem_cons_zero, List.getElem_cons_succ]
        refine wpAnyH_take (i := 34) (v := ?_) rfl (by kernel_rfl) (by kernel_rfl) (by kernel_rfl) (fun _ _ _ h => h) (Or.inl ⟨by rfl, ?_⟩) hHeld ?_
        rotate_left
        · intro w hSw
          have hSw1 := hSw
          clear hSw
          try dsimp only at hSw1
          go_simp
          try (with_reducible rfl)
        try simp only [Act.put, List.setIfInBounds_toArray, List.set_cons_zero, List.set_cons_succ, List.getElem_toArray, List.getElem_cons_zero, List.getElem_cons_succ]
        refine wpAnyH_take (i := 35) (v := ?_) rfl (by kernel_rfl) (by kernel_rfl) (by kernel_rfl) (fun _ _ _ h => h) (Or.inl ⟨by rfl, ?_⟩) hHeld ?_
        rotate_left
        · intro w hSw
          have hSw1 := hSw
          clear hSw
          try dsimp only at hSw1
          go_simp
          try (with_reducible rfl)
        try simp only [Act.put, List.setIfInBounds_toArray, List.set_cons_zero, List.set_cons_succ, List.getElem_toArray, List.getElem_cons_zero, List.getElem_cons_succ]
        refine wpAnyH_ready (rs := [36]) (by kernel_rfl) (by simp) ?_
        refine AllReadyH.cons rfl (fun K hK => ?_) AllReadyH.nil
        go_simp
        skip
        go_wp2_with fail
        refine hK.out _ _ (Lib.hid (hHeld.out.step ((Step.refl [] W.drew).alloc _) (by simp))) (fun hHeld2 => ?_)
        clear hK K hHeld
        try simp only [Act.put, List.setIfInBounds_toArray, List.set_cons_zero, List.set_cons_succ, List.getElem_toArray, List.getElem_cons_zero, List.getElem_cons_succ]
        refine wpAnyH_ready (rs := [37]) (by kernel_rfl) (by simp) ?_
        refine AllReadyH.cons rfl (fun K hK => ?_) AllReadyH.nil
        refine step_append_row rfl (.tmp 18) (.tmp 54) 33 33 rfl 23 i0 _ 5 40 Tryd.underlying33 HI.out.1 HI.out.2.1 HI.out.2.2.1 HI.out.2.2.2 rfl rfl ((HW.out.1.drew).alloc _) rfl (Src.rd 33 23 Tryd.underlying33 (rd_blk' (xs := evcs [evAt bs i]) (by have hq := (Blk.new W 23 (evc (evAt bs i)).toArray).drew; rw [HEV.out] at hq; simpa [evcs, HEV.out] using hq) 5 1 rfl) (evcs_one _)) (by unfold maxLen; omega) (by omega) (by omega) ?_; intro a9 c9 w9 hr9 st9; have H9 := Lib.hid (And.intro hr9 st9); clear hr9 st9
        refine hK.out _ _ (Lib.hid ((HF.out.step ((Step.refl [] W.drew).alloc _) (by simp)).step H9.out.2 HGN.out)) (fun hHeld3 => ?_)
        clear hK K hHeld2
        try simp only [Act.put, List.setIfInBounds_toArray, List.set_cons_zero, List.set_cons_succ, List.getElem_toArray, List.getElem_cons_zero, List.getElem_cons_succ]
        refine wpAnyH_take (i := 38) (v := ?_) rfl (by kernel_rfl) (by kernel_rfl) (by kernel_rfl) (fun _ _ _ h => h) (Or.inl ⟨by rfl, ?_⟩) hHeld3 ?_
        rotate_left
        · intro w hSw
          have hSw1 := hSw
          clear hSw
          try dsimp only at hSw1
          go_simp
          try (with_reducible rfl)
        try simp only [Act.put, List.setIfInBounds_toArray, List.set_cons_zero, List.set_cons_succ, List.getElem_toArray, List.getElem_cons_zero, List.getElem_cons_succ]
        refine wpAnyH_done (by kernel_rfl) ?_ _
        have HNX : Hid (Row w9 5 a9 (i + 1) c9 (evcs (evsN bs (i + 1))) ∧ Step [] (blks a9) w w9) := Lib.hid ⟨by rw [evsN_succ, evcs_app]; exact H9.out.1, ((HW.out.2.drew).alloc _).trans H9.out.2⟩
        clear H9 HW HF
        go_wp2_with fail
        go_roundw
        case rel => exact ⟨i + 1, a9, c9, by omega, by omega, by go_num, rfl, HNX⟩
        case measure => simp [intOf]; omega
      · have h5d : decide (5 * i + 5 ≤ B) = false := decide_eq_false h5
        have h5i : decide (5 * (i : Int) + 5 ≤ (B : Int)) = false := decide_eq_false (by omega)
        have HC : Hid (cntE bs = i) := Lib.hid (by rw [cntE, ← HB.out]; omega)
        go_wp2_with fail
        exact bodyPost_ret (results_tmp rfl _ _ _) rfl ⟨oa, oc, by rw [HC.out] <;> rfl, by rw [HC.out]; exact HW.out.1.rd, HW.out.2.drop (by simp)⟩
    · have hid4 : decide (i < 400) = false := decide_eq_false hi40
      have hii : decide ((i : Int) < 400) = false := decide_eq_false (by omega)
      have HC : Hid (cntE bs = i) := Lib.hid (by rw [cntE, ← HB.out]; omega)
      go_wp2_with fail
      exact bodyPost_ret (results_tmp rfl _ _ _) rfl ⟨oa, oc, by rw [HC.out] <;> rfl, by rw [HC.out]; exact HW.out.1.rd, HW.out.2.drop (by simp)⟩
end Go.Proofs.YtnklfcejdkpjfaaDoor
