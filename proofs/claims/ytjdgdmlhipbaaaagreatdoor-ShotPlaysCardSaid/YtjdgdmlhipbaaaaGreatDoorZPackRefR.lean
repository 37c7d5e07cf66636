/-
 Layer 3's reference: Reader. It does what pack's reader does. Condition: what is ahead has at most 2^62 bytes.
-/
import Derived.Test.YtjdgdmlhipbaaaaGreatDoorZGB
import Derived.Deep.RegionHeld3
import Derived.Deep.DeepCutAuto
import Derived.Deep.CutBlock
namespace Go.Proofs.YtjdgdmlhipbaaaaGreatDoor
open Go.RowKit
set_option linter.unusedSimpArgs false
set_option linter.unusedVariables false
set_option maxRecDepth 100000

def Ref (w : World) (p : Nat) (st : RS) : Prop := Blk w p 101 #[Str st.s, .bool st.bad]
theorem Ref.step {w w' : World} {p : Nat} {T T' : List Nat} {st : RS} (h : Ref w p st) (k : Step T T' w w') (hn : p ∉ T) : Ref w' p st := Blk.step h k hn
theorem Ref.c0 {w : World} {p : Nat} {st : RS} (h : Ref w p st) : w.cell? ⟨p, 0, none⟩ = some (Str st.s) := by have := Blk.cell h 0; simpa using this
theorem Ref.c1 {w : World} {p : Nat} {st : RS} (h : Ref w p st) : w.cell? ⟨p, 1, none⟩ = some (.bool st.bad) := by have := Blk.cell h 1; simpa using this
theorem Ref.fail {w : World} {p : Nat} {st : RS} (h : Ref w p st) : Ref ((w.setCell ⟨p, 0, none⟩ (Str [])).setCell ⟨p, 1, none⟩ (.bool true)) p rfail := (Blk.set h 0 (Str [])).set 1 (.bool true)
theorem step_fail (w : World) (p : Nat) (u v : Value) : Step [p] [p] w ((w.setCell ⟨p, 0, none⟩ u).setCell ⟨p, 1, none⟩ v) := ((Step.refl [p] w).setCell (.inl (by simp)) _).setCell (.inl (by simp)) _
def RefPost (p : Nat) (st : RS) (v : Value) (w : World) (e : Ending) (w' : World) : Prop := e = .returned v ∧ Ref w' p st ∧ Step [p] [p] w w'

set_option maxHeartbeats 400000 in
theorem refNum_none (p : Nat) (st : RS) (most : Int) (w : World) (h : Ref w p st) (hn : st.bad = true ∨ st.s = []) : Calls Tryz.prog 61 #[.pointer (some ⟨p, 0, none⟩), .int .i64 most] w (RefPost p rfail (.int .i64 0) w) := by
 obtain ⟨s, bad⟩ := st
 have c0 := h.c0
 have c1 := h.c1
 simp only at c0 c1 hn
 have f0 := Blk.frozen h 0
 have f1 := Blk.frozen h 1
 have H := Lib.hid h
 clear h
 cases bad with
 | true =>
  clear hn
  go_enter Tryz.func61, Tryz.ntmps61
  go_wp2_with fail
  go_ret
  exact ⟨rfl, H.out.fail, step_fail _ _ _ _⟩
 | false =>
  obtain rfl : s = [] := by rcases hn with h | h; cases h; exact h
  clear hn
  go_enter Tryz.func61, Tryz.ntmps61
  go_wp2_with fail
  go_ret
  exact ⟨rfl, H.out.fail, step_fail _ _ _ _⟩

set_option maxHeartbeats 400000 in
theorem refNum_odd (p : Nat) (hd : UInt8) (rest : List UInt8) (most : Int) (w : World) (h : Ref w p ⟨hd :: rest, false⟩) (hl : rest.length < 4611686018427387904) (hn : 8 < hd.toNat ∨ (hd.toNat ≤ 8 ∧ rest.length < hd.toNat)) :
  Calls Tryz.prog 61 #[.pointer (some ⟨p, 0, none⟩), .int .i64 most] w (RefPost p rfail (.int .i64 0) w) := by
 have c0 := h.c0
 have c1 := h.c1
 simp only at c0 c1 hn
 have f0 := Blk.frozen h 0
 have f1 := Blk.frozen h 1
 have H := Lib.hid h
 clear h
 rcases hn with hn | ⟨hn1, hn2⟩
 ·go_enter Tryz.func61, Tryz.ntmps61
  go_wp2_with fail
  go_ret
  exact ⟨rfl, H.out.fail, step_fail _ _ _ _⟩
 ·go_enter Tryz.func61, Tryz.ntmps61
  go_wp2_with fail
  go_ret
  exact ⟨rfl, H.out.fail, step_fail _ _ _ _⟩

/-- A beginning that is too great makes the whole so. -/
theorem val_great (b : List UInt8) (k : Nat) (hk : k < b.length) (h : 18014398509481983 < val (b.take k)) : 4611686018427387903 < val b := by
 have h1 : ∀ j, k < j → j ≤ b.length → 4611686018427387904 ≤ val (b.take j) := by
  intro j
  induction j with
  | zero => intro h; omega
  | succ j ih =>
   intro h1 h2
   rw [val_take b j (by omega)]
   rcases Nat.lt_or_ge k j with h3 | h3
   ·have := ih h3 (by omega); omega
   ·have : k = j := by omega
    subst this
    omega
 have := h1 b.length hk (Nat.le_refl _)
 rw [List.take_length] at this
 omega

/-- What upto says of a number of so many bytes. -/
theorem upto_eq (hd : UInt8) (b tail : List UInt8) (most : Int) (hb : b.length = hd.toNat) (h8 : b.length ≤ 8) :
  upto ⟨hd :: (b ++ tail), false⟩ most = if numB (val b) = hd :: b then uptoFin most (val b) tail else (0, rfail) := by
 simp only [upto]
 rw [if_neg (by simp), ← hb]
 have hof : UInt8.ofNat b.length = hd := by
  apply UInt8.toNat_inj.1
  rw [hb]
  simp
 by_cases h : b.head? = some 0
 ·rw [if_pos, if_neg]
  ·intro e
   have : be (val b) = b := by simp only [numB, List.cons.injEq] at e; exact e.2
   have h2 := be_head (val b)
   rw [this] at h2
   exact h2 h
  ·refine .inr (.inr ⟨?_, ?_⟩)
   ·cases b with
    | nil => simp at h
    | cons => simp
   ·rw [head_app _ _ (by intro e; rw [e] at h; simp at h)]; exact h
 ·rw [if_neg, if_pos, List.take_left, List.drop_left]
  ·rw [numB, be_val b h, hof]
  ·rintro (h1 | h1 | ⟨h1, h2⟩)
   ·simp at h1; omega
   ·omega
   ·rw [head_app _ _ (by intro e; rw [e] at h1; simp at h1)] at h2
    exact h h2

set_option maxRecDepth 100000 in
set_option maxHeartbeats 40000000 in
theorem refNum_num (p : Nat) (hd : UInt8) (b tail s : List UInt8) (most : Int) (w : World) (hs : s = hd :: (b ++ tail)) (hr : Ref w p ⟨s, false⟩) (hl : s.length < 4611686018427387904) (hb : b.length = hd.toNat) (h8 : b.length ≤ 8) :
  Calls Tryz.prog 61 #[.pointer (some ⟨p, 0, none⟩), .int .i64 most] w (RefPost p (upto ⟨s, false⟩ most).2 (.int .i64 (upto ⟨s, false⟩ most).1) w) := by
 have hue : Hid (upto ⟨s, false⟩ most = if numB (val b) = hd :: b then uptoFin most (val b) tail else (0, rfail)) := by show _ = _; rw [hs]; exact upto_eq hd b tail most hb h8
 have c0 := hr.c0
 have c1 := hr.c1
 simp only at c0 c1
 have f0 := Blk.frozen hr 0
 have f1 := Blk.frozen hr 1
 have H := Lib.hid hr
 clear hr
 have h8' : hd.toNat ≤ 8 := by omega
 have hn : 1 + hd.toNat ≤ s.length := by rw [hs]; simp; omega
 have z0 : ((s.length : Int) == 0) = false := by rw [beq_eq_false_iff_ne]; omega
 have z1 : 1 + (hd.toNat : Int) ≤ (s.length : Int) := by omega
 have z2 : 0 ≤ 1 + (hd.toNat : Int) := by omega
 have z3 : (1 + (hd.toNat : Int)).toNat = 1 + hd.toNat := by omega
 have z4 : IntKind.i64.wrap (1 + (hd.toNat : Int)) = 1 + (hd.toNat : Int) := IntWalk.i64_in _ (by omega)
 have y0 : ∀ h, s[0]'h = hd := by intro h; subst hs; rfl
 have ht : Hid (s.take (1 + hd.toNat) = hd :: b) := by show _ = _; rw [hs, ← hb, Nat.add_comm]; simp
 have hdr : Hid (s.drop (1 + hd.toNat) = tail) := by show _ = _; rw [hs, ← hb, Nat.add_comm]; simp
 have hix : Hid (∀ k (hk : k < b.length) h, (s[1 + k]'h).toNat = b[k].toNat) := by
  intro k hk h
  subst hs
  simp [show 1 + k = k + 1 by omega, List.getElem_append_left hk]
 have hb' : b.length ≤ hd.toNat := by omega
 have hb'' : hd.toNat ≤ b.length := by omega
 clear hb hs
 go_enter Tryz.func61, Tryz.ntmps61
 go_upto_block 0 with fail
 go_cut [6] (fun n wx => n = .int .i64 (val b : Int) ∧ Hid (val b ≤ 4611686018427387903 ∧ wx = w))
 case first =>
  go_wp2_with fail
  go_loopw [6, 7] (fun n i wr => ∃ k : Nat, k ≤ b.length ∧ i = .int .i64 (1 + k) ∧ n = .int .i64 (val (b.take k)) ∧ Hid (val (b.take k) ≤ 4611686018427387903 ∧ wr = w)) (fun _ i _ => b.length + 1 - (intOf i).toNat)
  case atStart => exact ⟨0, by omega, rfl, rfl, by simp [val], rfl⟩
  case round =>
   obtain ⟨k, hk, rfl, rfl, HV⟩ := hrel
   obtain rfl := HV.out.2
   by_cases hlt : k < b.length
   ·by_cases hg : 18014398509481983 < val (b.take k)
    ·have hres : Hid (upto ⟨s, false⟩ most = (0, rfail)) := by
      show _ = _
      have := val_great b k hlt hg
      rw [hue.out]
      split
      ·simp [uptoFin, this]
      ·rfl
     have hg' : (18014398509481983 : Int) < (val (b.take k) : Int) := by omega
     clear hg
     go_wp2_with fail
     go_ret
     rw [hres.out]
     exact ⟨rfl, H.out.fail, step_fail _ _ _ _⟩
    ·have hg' : (val (b.take k) : Int) ≤ 18014398509481983 := by omega
     have hv := Lib.hid (val_take b k hlt)
     go_wp2_with fail
     go_roundw
     case rel =>
      have hc := b[k].toNat_lt
      refine ⟨k + 1, by omega, by go_num, ?_, ?_, trivial⟩
      ·rw [hix.out k hlt, hv.out, IntWalk.wrap64_in _ (by omega)]
       rfl
      ·rw [hv.out]
       omega
     case measure => simp [intOf]; omega
   ·obtain rfl : k = b.length := by omega
    have hfull := Lib.hid (List.take_length (l := b))
    rw [hfull.out] at HV ⊢
    go_wp2_with fail
    go_meet
    case rel => exact ⟨rfl, HV.out.1, rfl⟩
 case rest =>
  rename World => V
  obtain ⟨rfl, HV⟩ := hcut
  obtain rfl := HV.out.2
  obtain ⟨N, hN⟩ : ∃ N, N = val b := ⟨_, rfl⟩
  rw [← hN] at HV hue ⊢
  have hv62 := HV.out.1
  have c0v := c0
  clear hix HV y0
  have HN := Lib.hid hN
  clear hN
  have ht' := ht.out
  go_upto_region 16 with fail
  go_cut [91] (fun q wx => q = .bool (!decide (numB N = hd :: b) || decide (most < (N : Int))) ∧ Hid (Ref wx p ⟨s, false⟩ ∧ Step [] [] V wx))
  case first =>
   have hnn : ¬ (N : Int) < 0 := by omega
   by_cases heq : numB N = hd :: b
   ·have heqb : (numB N == hd :: b) = true := by rw [heq]; simp
    by_cases hm : most < (N : Int)
    ·have hmb : decide (most < (N : Int)) = true := by simpa using hm
     have hpost : (!decide (numB N = hd :: b) || decide (most < (N : Int))) = true := by simp [hm]
     have hpost := Lib.hid hpost
     refine wp_region_held_drew (S := fun w' => w'.cell? ⟨p, 0, none⟩ = some (Str s) ∧ Step [] [] V w') (by kernel_rfl) (⟨c0v, (Step.refl _ _).drew⟩) (fun hHeld => ?_)
     refine wpAnyH_take (i := 0) (v := ?_) rfl (by kernel_rfl) (by kernel_rfl) (by kernel_rfl) (fun _ _ _ h => h) (Or.inl ⟨by rfl, ?_⟩) hHeld ?_
     rotate_left
     ·intro w hSw1
      try dsimp only at hSw1
      go_simp
      try (with_reducible rfl)
     try simp only [Act.put, LsA, LsB, LsC, LsD, LsE, LsF]
     refine wpAnyH_take (i := 2) (v := ?_) rfl (by kernel_rfl) (by kernel_rfl) (by kernel_rfl) (fun _ _ _ h => h) (Or.inl ⟨by rfl, ?_⟩) hHeld ?_
     rotate_left
     ·intro w hSw1
      try dsimp only at hSw1
      go_simp
      try (with_reducible rfl)
     try simp only [Act.put, LsA, LsB, LsC, LsD, LsE, LsF]
     refine wpAnyH_take (i := 3) (v := ?_) rfl (by kernel_rfl) (by kernel_rfl) (by kernel_rfl) (fun _ _ _ h => h) (Or.inl ⟨by rfl, ?_⟩) hHeld ?_
     rotate_left
     ·intro w hSw1
      try dsimp only at hSw1
      go_simp
      try (with_reducible rfl)
     try simp only [Act.put, LsA, LsB, LsC, LsD, LsE, LsF]
     refine wpAnyH_take (i := 4) (v := ?_) rfl (by kernel_rfl) (by kernel_rfl) (by kernel_rfl) (fun _ _ _ h => h) (Or.inl ⟨by rfl, ?_⟩) hHeld ?_
     rotate_left
     ·intro w hSw1
      try dsimp only at hSw1
      go_simp
      try (with_reducible rfl)
     try simp only [Act.put, LsA, LsB, LsC, LsD, LsE, LsF]
     refine wpAnyH_take (i := 5) (v := ?_) rfl (by kernel_rfl) (by kernel_rfl) (by kernel_rfl) (fun _ _ _ h => h) (Or.inl ⟨by rfl, ?_⟩) hHeld ?_
     rotate_left
     ·intro w hSw1
      try dsimp only at hSw1
      go_simp
      try (with_reducible rfl)
     try simp only [Act.put, LsA, LsB, LsC, LsD, LsE, LsF]
     refine wpAnyH_take (i := 6) (v := ?_) rfl (by kernel_rfl) (by kernel_rfl) (by kernel_rfl) (fun _ _ _ h => h) (Or.inl ⟨by rfl, ?_⟩) hHeld ?_
     rotate_left
     ·intro w hSw1
      try dsimp only at hSw1
      go_simp
      try (with_reducible rfl)
     try simp only [Act.put, LsA, LsB, LsC, LsD, LsE, LsF]
     refine wpAnyH_take (i := 7) (v := ?_) rfl (by kernel_rfl) (by kernel_rfl) (by kernel_rfl) (fun _ _ _ h => h) (Or.inl ⟨by rfl, ?_⟩) hHeld ?_
     rotate_left
     ·intro w hSw1
      try dsimp only at hSw1
      go_simp
      try (with_reducible rfl)
     try simp only [Act.put, LsA, LsB, LsC, LsD, LsE, LsF]
     refine wpAnyH_take (i := 8) (v := ?_) rfl (by kernel_rfl) (by kernel_rfl) (by kernel_rfl) (fun _ _ _ h => h) (Or.inl ⟨by rfl, ?_⟩) hHeld ?_
     rotate_left
     ·intro w hSw1
      try dsimp only at hSw1
      go_simp
      try (with_reducible rfl)
     try simp only [Act.put, LsA, LsB, LsC, LsD, LsE, LsF]
     refine wpAnyH_ready (rs := [1]) (by kernel_rfl) (by simp) ?_
     refine AllReadyH.cons rfl (fun K hK => ?_) AllReadyH.nil
     go_simp
     refine (refNumber_any _ (by omega) _).mono ?_; rintro e w6 ⟨rfl, hk6⟩
     go_wp2_with fail
     refine hK.out _ _ (⟨Step.cell hk6 hHeld.1 (by simp), hHeld.2.trans hk6⟩) (fun hHeld2 => ?_)
     clear hK K hHeld
     try simp only [Act.put, LsA, LsB, LsC, LsD, LsE, LsF]
     refine wpAnyH_take (i := 9) (v := ?_) rfl (by kernel_rfl) (by kernel_rfl) (by kernel_rfl) (fun _ _ _ h => h) (Or.inl ⟨by rfl, ?_⟩) hHeld2 ?_
     rotate_left
     ·intro w hSw1
      try dsimp only at hSw1
      go_simp
      try (with_reducible rfl)
     try simp only [Act.put, LsA, LsB, LsC, LsD, LsE, LsF]
     refine wpAnyH_take (i := 10) (v := ?_) rfl (by kernel_rfl) (by kernel_rfl) (by kernel_rfl) (fun _ _ _ h => h) (Or.inl ⟨by rfl, ?_⟩) hHeld2 ?_
     rotate_left
     ·intro w hSw1
      try dsimp only at hSw1
      go_simp
      try (with_reducible rfl)
     try simp only [Act.put, LsA, LsB, LsC, LsD, LsE, LsF]
     refine wpAnyH_take (i := 11) (v := ?_) rfl (by kernel_rfl) (by kernel_rfl) (by kernel_rfl) (fun _ _ _ h => h) (Or.inl ⟨by rfl, ?_⟩) hHeld2 ?_
     rotate_left
     ·intro w hSw1
      try dsimp only at hSw1
      go_simp
      try (with_reducible rfl)
     try simp only [Act.put, LsA, LsB, LsC, LsD, LsE, LsF]
     refine wpAnyH_take (i := 12) (v := ?_) rfl (by kernel_rfl) (by kernel_rfl) (by kernel_rfl) (fun _ _ _ h => h) (Or.inl ⟨by rfl, ?_⟩) hHeld2 ?_
     rotate_left
     ·intro w hSw1
      try dsimp only at hSw1
      go_simp
      try (with_reducible rfl)
     try simp only [Act.put, LsA, LsB, LsC, LsD, LsE, LsF]
     refine wpAnyH_take (i := 13) (v := ?_) rfl (by kernel_rfl) (by kernel_rfl) (by kernel_rfl) (fun _ _ _ h => h) (Or.inl ⟨by rfl, ?_⟩) hHeld2 ?_
     rotate_left
     ·intro w hSw1
      try dsimp only at hSw1
      go_simp
      try (with_reducible rfl)
     try simp only [Act.put, LsA, LsB, LsC, LsD, LsE, LsF]
     refine wpAnyH_take (i := 14) (v := ?_) rfl (by kernel_rfl) (by kernel_rfl) (by kernel_rfl) (fun _ _ _ h => h) (Or.inl ⟨by rfl, ?_⟩) hHeld2 ?_
     rotate_left
     ·intro w hSw1
      try dsimp only at hSw1
      go_simp
      try (with_reducible rfl)
     try simp only [Act.put, LsA, LsB, LsC, LsD, LsE, LsF]
     refine wpAnyH_take (i := 15) (v := ?_) rfl (by kernel_rfl) (by kernel_rfl) (by kernel_rfl) (fun _ _ _ h => h) (Or.inl ⟨by rfl, ?_⟩) hHeld2 ?_
     rotate_left
     ·intro w hSw1
      try dsimp only at hSw1
      go_simp
      try (with_reducible rfl)
     try simp only [Act.put, LsA, LsB, LsC, LsD, LsE, LsF]
     refine wpAnyH_take (i := 16) (v := undef) rfl (by kernel_rfl) (by kernel_rfl) (by kernel_rfl) (fun _ _ _ h => h) (Or.inr ⟨by kernel_rfl, rfl⟩) hHeld2 ?_
     try simp only [Act.put, LsA, LsB, LsC, LsD, LsE, LsF]
     refine wpAnyH_take (i := 17) (v := undef) rfl (by kernel_rfl) (by kernel_rfl) (by kernel_rfl) (fun _ _ _ h => h) (Or.inr ⟨by kernel_rfl, rfl⟩) hHeld2 ?_
     try simp only [Act.put, LsA, LsB, LsC, LsD, LsE, LsF]
     refine wpAnyH_take (i := 18) (v := ?_) rfl (by kernel_rfl) (by kernel_rfl) (by kernel_rfl) (fun _ _ _ h => h) (Or.inl ⟨by rfl, ?_⟩) hHeld2 ?_
     rotate_left
     ·intro w hSw1
      try dsimp only at hSw1
      go_simp
      try (with_reducible rfl)
     try simp only [Act.put, LsA, LsB, LsC, LsD, LsE, LsF]
     refine wpAnyH_done (by kernel_rfl) ?_ _
     go_wp2_with fail
     go_meet
     case rel => exact ⟨(by rw [hpost.out]; try simp), Ref.step (show Ref V p ⟨s, false⟩ from H.out) hHeld2.2 (by simp), hHeld2.2⟩
    ·have hmb : decide (most < (N : Int)) = false := by simpa using hm
     have hpost : (!decide (numB N = hd :: b) || decide (most < (N : Int))) = false := by simp [hm, heq]
     have hpost := Lib.hid hpost
     refine wp_region_held_drew (S := fun w' => w'.cell? ⟨p, 0, none⟩ = some (Str s) ∧ Step [] [] V w') (by kernel_rfl) (⟨c0v, (Step.refl _ _).drew⟩) (fun hHeld => ?_)
     refine wpAnyH_take (i := 0) (v := ?_) rfl (by kernel_rfl) (by kernel_rfl) (by kernel_rfl) (fun _ _ _ h => h) (Or.inl ⟨by rfl, ?_⟩) hHeld ?_
     rotate_left
     ·intro w hSw1
      try dsimp only at hSw1
      go_simp
      try (with_reducible rfl)
     try simp only [Act.put, LsA, LsB, LsC, LsD, LsE, LsF]
     refine wpAnyH_take (i := 2) (v := ?_) rfl (by kernel_rfl) (by kernel_rfl) (by kernel_rfl) (fun _ _ _ h => h) (Or.inl ⟨by rfl, ?_⟩) hHeld ?_
     rotate_left
     ·intro w hSw1
      try dsimp only at hSw1
      go_simp
      try (with_reducible rfl)
     try simp only [Act.put, LsA, LsB, LsC, LsD, LsE, LsF]
     refine wpAnyH_take (i := 3) (v := ?_) rfl (by kernel_rfl) (by kernel_rfl) (by kernel_rfl) (fun _ _ _ h => h) (Or.inl ⟨by rfl, ?_⟩) hHeld ?_
     rotate_left
     ·intro w hSw1
      try dsimp only at hSw1
      go_simp
      try (with_reducible rfl)
     try simp only [Act.put, LsA, LsB, LsC, LsD, LsE, LsF]
     refine wpAnyH_take (i := 4) (v := ?_) rfl (by kernel_rfl) (by kernel_rfl) (by kernel_rfl) (fun _ _ _ h => h) (Or.inl ⟨by rfl, ?_⟩) hHeld ?_
     rotate_left
     ·intro w hSw1
      try dsimp only at hSw1
      go_simp
      try (with_reducible rfl)
     try simp only [Act.put, LsA, LsB, LsC, LsD, LsE, LsF]
     refine wpAnyH_take (i := 5) (v := ?_) rfl (by kernel_rfl) (by kernel_rfl) (by kernel_rfl) (fun _ _ _ h => h) (Or.inl ⟨by rfl, ?_⟩) hHeld ?_
     rotate_left
     ·intro w hSw1
      try dsimp only at hSw1
      go_simp
      try (with_reducible rfl)
     try simp only [Act.put, LsA, LsB, LsC, LsD, LsE, LsF]
     refine wpAnyH_take (i := 6) (v := ?_) rfl (by kernel_rfl) (by kernel_rfl) (by kernel_rfl) (fun _ _ _ h => h) (Or.inl ⟨by rfl, ?_⟩) hHeld ?_
     rotate_left
     ·intro w hSw1
      try dsimp only at hSw1
      go_simp
      try (with_reducible rfl)
     try simp only [Act.put, LsA, LsB, LsC, LsD, LsE, LsF]
     refine wpAnyH_take (i := 7) (v := ?_) rfl (by kernel_rfl) (by kernel_rfl) (by kernel_rfl) (fun _ _ _ h => h) (Or.inl ⟨by rfl, ?_⟩) hHeld ?_
     rotate_left
     ·intro w hSw1
      try dsimp only at hSw1
      go_simp
      try (with_reducible rfl)
     try simp only [Act.put, LsA, LsB, LsC, LsD, LsE, LsF]
     refine wpAnyH_take (i := 8) (v := ?_) rfl (by kernel_rfl) (by kernel_rfl) (by kernel_rfl) (fun _ _ _ h => h) (Or.inl ⟨by rfl, ?_⟩) hHeld ?_
     rotate_left
     ·intro w hSw1
      try dsimp only at hSw1
      go_simp
      try (with_reducible rfl)
     try simp only [Act.put, LsA, LsB, LsC, LsD, LsE, LsF]
     refine wpAnyH_ready (rs := [1]) (by kernel_rfl) (by simp) ?_
     refine AllReadyH.cons rfl (fun K hK => ?_) AllReadyH.nil
     go_simp
     refine (refNumber_any _ (by omega) _).mono ?_; rintro e w6 ⟨rfl, hk6⟩
     go_wp2_with fail
     refine hK.out _ _ (⟨Step.cell hk6 hHeld.1 (by simp), hHeld.2.trans hk6⟩) (fun hHeld2 => ?_)
     clear hK K hHeld
     try simp only [Act.put, LsA, LsB, LsC, LsD, LsE, LsF]
     refine wpAnyH_take (i := 9) (v := ?_) rfl (by kernel_rfl) (by kernel_rfl) (by kernel_rfl) (fun _ _ _ h => h) (Or.inl ⟨by rfl, ?_⟩) hHeld2 ?_
     rotate_left
     ·intro w hSw1
      try dsimp only at hSw1
      go_simp
      try (with_reducible rfl)
     try simp only [Act.put, LsA, LsB, LsC, LsD, LsE, LsF]
     refine wpAnyH_take (i := 10) (v := ?_) rfl (by kernel_rfl) (by kernel_rfl) (by kernel_rfl) (fun _ _ _ h => h) (Or.inl ⟨by rfl, ?_⟩) hHeld2 ?_
     rotate_left
     ·intro w hSw1
      try dsimp only at hSw1
      go_simp
      try (with_reducible rfl)
     try simp only [Act.put, LsA, LsB, LsC, LsD, LsE, LsF]
     refine wpAnyH_take (i := 11) (v := ?_) rfl (by kernel_rfl) (by kernel_rfl) (by kernel_rfl) (fun _ _ _ h => h) (Or.inl ⟨by rfl, ?_⟩) hHeld2 ?_
     rotate_left
     ·intro w hSw1
      try dsimp only at hSw1
      go_simp
      try (with_reducible rfl)
     try simp only [Act.put, LsA, LsB, LsC, LsD, LsE, LsF]
     refine wpAnyH_take (i := 12) (v := ?_) rfl (by kernel_rfl) (by kernel_rfl) (by kernel_rfl) (fun _ _ _ h => h) (Or.inl ⟨by rfl, ?_⟩) hHeld2 ?_
     rotate_left
     ·intro w hSw1
      try dsimp only at hSw1
      go_simp
      try (with_reducible rfl)
     try simp only [Act.put, LsA, LsB, LsC, LsD, LsE, LsF]
     refine wpAnyH_take (i := 13) (v := ?_) rfl (by kernel_rfl) (by kernel_rfl) (by kernel_rfl) (fun _ _ _ h => h) (Or.inl ⟨by rfl, ?_⟩) hHeld2 ?_
     rotate_left
     ·intro w hSw1
      try dsimp only at hSw1
      go_simp
      try (with_reducible rfl)
     try simp only [Act.put, LsA, LsB, LsC, LsD, LsE, LsF]
     refine wpAnyH_take (i := 14) (v := ?_) rfl (by kernel_rfl) (by kernel_rfl) (by kernel_rfl) (fun _ _ _ h => h) (Or.inl ⟨by rfl, ?_⟩) hHeld2 ?_
     rotate_left
     ·intro w hSw1
      try dsimp only at hSw1
      go_simp
      try (with_reducible rfl)
     try simp only [Act.put, LsA, LsB, LsC, LsD, LsE, LsF]
     refine wpAnyH_take (i := 15) (v := ?_) rfl (by kernel_rfl) (by kernel_rfl) (by kernel_rfl) (fun _ _ _ h => h) (Or.inl ⟨by rfl, ?_⟩) hHeld2 ?_
     rotate_left
     ·intro w hSw1
      try dsimp only at hSw1
      go_simp
      try (with_reducible rfl)
     try simp only [Act.put, LsA, LsB, LsC, LsD, LsE, LsF]
     refine wpAnyH_take (i := 16) (v := ?_) rfl (by kernel_rfl) (by kernel_rfl) (by kernel_rfl) (fun _ _ _ h => h) (Or.inl ⟨by rfl, ?_⟩) hHeld2 ?_
     rotate_left
     ·intro w hSw1
      try dsimp only at hSw1
      go_simp
      try (with_reducible rfl)
     try simp only [Act.put, LsA, LsB, LsC, LsD, LsE, LsF]
     refine wpAnyH_take (i := 17) (v := ?_) rfl (by kernel_rfl) (by kernel_rfl) (by kernel_rfl) (fun _ _ _ h => h) (Or.inl ⟨by rfl, ?_⟩) hHeld2 ?_
     rotate_left
     ·intro w hSw1
      try dsimp only at hSw1
      go_simp
      try (with_reducible rfl)
     try simp only [Act.put, LsA, LsB, LsC, LsD, LsE, LsF]
     refine wpAnyH_take (i := 18) (v := ?_) rfl (by kernel_rfl) (by kernel_rfl) (by kernel_rfl) (fun _ _ _ h => h) (Or.inl ⟨by rfl, ?_⟩) hHeld2 ?_
     rotate_left
     ·intro w hSw1
      try dsimp only at hSw1
      go_simp
      try (with_reducible rfl)
     try simp only [Act.put, LsA, LsB, LsC, LsD, LsE, LsF]
     refine wpAnyH_done (by kernel_rfl) ?_ _
     go_wp2_with fail
     go_meet
     case rel => exact ⟨(by rw [hpost.out]; try simp), Ref.step (show Ref V p ⟨s, false⟩ from H.out) hHeld2.2 (by simp), hHeld2.2⟩
   ·have heqb : (numB N == hd :: b) = false := by simpa using heq
    have hpost : (!decide (numB N = hd :: b) || decide (most < (N : Int))) = true := by simp [heq]
    have hpost := Lib.hid hpost
    refine wp_region_held_drew (S := fun w' => w'.cell? ⟨p, 0, none⟩ = some (Str s) ∧ Step [] [] V w') (by kernel_rfl) (⟨c0v, (Step.refl _ _).drew⟩) (fun hHeld => ?_)
    refine wpAnyH_take (i := 0) (v := ?_) rfl (by kernel_rfl) (by kernel_rfl) (by kernel_rfl) (fun _ _ _ h => h) (Or.inl ⟨by rfl, ?_⟩) hHeld ?_
    rotate_left
    ·intro w hSw1
     try dsimp only at hSw1
     go_simp
     try (with_reducible rfl)
    try simp only [Act.put, LsA, LsB, LsC, LsD, LsE, LsF]
    refine wpAnyH_take (i := 2) (v := ?_) rfl (by kernel_rfl) (by kernel_rfl) (by kernel_rfl) (fun _ _ _ h => h) (Or.inl ⟨by rfl, ?_⟩) hHeld ?_
    rotate_left
    ·intro w hSw1
     try dsimp only at hSw1
     go_simp
     try (with_reducible rfl)
    try simp only [Act.put, LsA, LsB, LsC, LsD, LsE, LsF]
    refine wpAnyH_take (i := 3) (v := ?_) rfl (by kernel_rfl) (by kernel_rfl) (by kernel_rfl) (fun _ _ _ h => h) (Or.inl ⟨by rfl, ?_⟩) hHeld ?_
    rotate_left
    ·intro w hSw1
     try dsimp only at hSw1
     go_simp
     try (with_reducible rfl)
    try simp only [Act.put, LsA, LsB, LsC, LsD, LsE, LsF]
    refine wpAnyH_take (i := 4) (v := ?_) rfl (by kernel_rfl) (by kernel_rfl) (by kernel_rfl) (fun _ _ _ h => h) (Or.inl ⟨by rfl, ?_⟩) hHeld ?_
    rotate_left
    ·intro w hSw1
     try dsimp only at hSw1
     go_simp
     try (with_reducible rfl)
    try simp only [Act.put, LsA, LsB, LsC, LsD, LsE, LsF]
    refine wpAnyH_take (i := 5) (v := ?_) rfl (by kernel_rfl) (by kernel_rfl) (by kernel_rfl) (fun _ _ _ h => h) (Or.inl ⟨by rfl, ?_⟩) hHeld ?_
    rotate_left
    ·intro w hSw1
     try dsimp only at hSw1
     go_simp
     try (with_reducible rfl)
    try simp only [Act.put, LsA, LsB, LsC, LsD, LsE, LsF]
    refine wpAnyH_take (i := 6) (v := ?_) rfl (by kernel_rfl) (by kernel_rfl) (by kernel_rfl) (fun _ _ _ h => h) (Or.inl ⟨by rfl, ?_⟩) hHeld ?_
    rotate_left
    ·intro w hSw1
     try dsimp only at hSw1
     go_simp
     try (with_reducible rfl)
    try simp only [Act.put, LsA, LsB, LsC, LsD, LsE, LsF]
    refine wpAnyH_take (i := 7) (v := ?_) rfl (by kernel_rfl) (by kernel_rfl) (by kernel_rfl) (fun _ _ _ h => h) (Or.inl ⟨by rfl, ?_⟩) hHeld ?_
    rotate_left
    ·intro w hSw1
     try dsimp only at hSw1
     go_simp
     try (with_reducible rfl)
    try simp only [Act.put, LsA, LsB, LsC, LsD, LsE, LsF]
    refine wpAnyH_take (i := 8) (v := ?_) rfl (by kernel_rfl) (by kernel_rfl) (by kernel_rfl) (fun _ _ _ h => h) (Or.inl ⟨by rfl, ?_⟩) hHeld ?_
    rotate_left
    ·intro w hSw1
     try dsimp only at hSw1
     go_simp
     try (with_reducible rfl)
    try simp only [Act.put, LsA, LsB, LsC, LsD, LsE, LsF]
    refine wpAnyH_ready (rs := [1]) (by kernel_rfl) (by simp) ?_
    refine AllReadyH.cons rfl (fun K hK => ?_) AllReadyH.nil
    go_simp
    refine (refNumber_any _ (by omega) _).mono ?_; rintro e w6 ⟨rfl, hk6⟩
    go_wp2_with fail
    refine hK.out _ _ (⟨Step.cell hk6 hHeld.1 (by simp), hHeld.2.trans hk6⟩) (fun hHeld2 => ?_)
    clear hK K hHeld
    try simp only [Act.put, LsA, LsB, LsC, LsD, LsE, LsF]
    refine wpAnyH_take (i := 9) (v := ?_) rfl (by kernel_rfl) (by kernel_rfl) (by kernel_rfl) (fun _ _ _ h => h) (Or.inl ⟨by rfl, ?_⟩) hHeld2 ?_
    rotate_left
    ·intro w hSw1
     try dsimp only at hSw1
     go_simp
     try (with_reducible rfl)
    try simp only [Act.put, LsA, LsB, LsC, LsD, LsE, LsF]
    refine wpAnyH_take (i := 10) (v := ?_) rfl (by kernel_rfl) (by kernel_rfl) (by kernel_rfl) (fun _ _ _ h => h) (Or.inl ⟨by rfl, ?_⟩) hHeld2 ?_
    rotate_left
    ·intro w hSw1
     try dsimp only at hSw1
     go_simp
     try (with_reducible rfl)
    try simp only [Act.put, LsA, LsB, LsC, LsD, LsE, LsF]
    refine wpAnyH_take (i := 11) (v := undef) rfl (by kernel_rfl) (by kernel_rfl) (by kernel_rfl) (fun _ _ _ h => h) (Or.inr ⟨by kernel_rfl, rfl⟩) hHeld2 ?_
    try simp only [Act.put, LsA, LsB, LsC, LsD, LsE, LsF]
    refine wpAnyH_take (i := 12) (v := undef) rfl (by kernel_rfl) (by kernel_rfl) (by kernel_rfl) (fun _ _ _ h => h) (Or.inr ⟨by kernel_rfl, rfl⟩) hHeld2 ?_
    try simp only [Act.put, LsA, LsB, LsC, LsD, LsE, LsF]
    refine wpAnyH_take (i := 13) (v := undef) rfl (by kernel_rfl) (by kernel_rfl) (by kernel_rfl) (fun _ _ _ h => h) (Or.inr ⟨by kernel_rfl, rfl⟩) hHeld2 ?_
    try simp only [Act.put, LsA, LsB, LsC, LsD, LsE, LsF]
    refine wpAnyH_take (i := 14) (v := ?_) rfl (by kernel_rfl) (by kernel_rfl) (by kernel_rfl) (fun _ _ _ h => h) (Or.inl ⟨by rfl, ?_⟩) hHeld2 ?_
    rotate_left
    ·intro w hSw1
     try dsimp only at hSw1
     go_simp
     try (with_reducible rfl)
    try simp only [Act.put, LsA, LsB, LsC, LsD, LsE, LsF]
    refine wpAnyH_take (i := 15) (v := ?_) rfl (by kernel_rfl) (by kernel_rfl) (by kernel_rfl) (fun _ _ _ h => h) (Or.inl ⟨by rfl, ?_⟩) hHeld2 ?_
    rotate_left
    ·intro w hSw1
     try dsimp only at hSw1
     go_simp
     try (with_reducible rfl)
    try simp only [Act.put, LsA, LsB, LsC, LsD, LsE, LsF]
    refine wpAnyH_take (i := 16) (v := undef) rfl (by kernel_rfl) (by kernel_rfl) (by kernel_rfl) (fun _ _ _ h => h) (Or.inr ⟨by kernel_rfl, rfl⟩) hHeld2 ?_
    try simp only [Act.put, LsA, LsB, LsC, LsD, LsE, LsF]
    refine wpAnyH_take (i := 17) (v := undef) rfl (by kernel_rfl) (by kernel_rfl) (by kernel_rfl) (fun _ _ _ h => h) (Or.inr ⟨by kernel_rfl, rfl⟩) hHeld2 ?_
    try simp only [Act.put, LsA, LsB, LsC, LsD, LsE, LsF]
    refine wpAnyH_take (i := 18) (v := ?_) rfl (by kernel_rfl) (by kernel_rfl) (by kernel_rfl) (fun _ _ _ h => h) (Or.inl ⟨by rfl, ?_⟩) hHeld2 ?_
    rotate_left
    ·intro w hSw1
     try dsimp only at hSw1
     go_simp
     try (with_reducible rfl)
    try simp only [Act.put, LsA, LsB, LsC, LsD, LsE, LsF]
    refine wpAnyH_done (by kernel_rfl) ?_ _
    go_wp2_with fail
    go_meet
    case rel => exact ⟨(by rw [hpost.out]; try simp), Ref.step (show Ref V p ⟨s, false⟩ from H.out) hHeld2.2 (by simp), hHeld2.2⟩
  case rest =>
   rename World => V2
   obtain ⟨rfl, HQ⟩ := hcut
   have c0q := HQ.out.1.c0
   have c1q := HQ.out.1.c1
   have f0q := Blk.frozen HQ.out.1 0
   have f1q := Blk.frozen HQ.out.1 1
   simp only at c0q c1q
   have hd' := hdr.out
   cases hb2 : (!decide (numB N = hd :: b) || decide (most < (N : Int))) with
   | true =>
    have hres : Hid (upto ⟨s, false⟩ most = (0, rfail)) := by
     show _ = _
     rw [hue.out]
     simp only [Bool.or_eq_true, Bool.not_eq_true', decide_eq_false_iff_not, decide_eq_true_eq] at hb2
     rcases hb2 with h | h
     ·rw [if_neg h]
     ·split
      ·simp only [uptoFin]; rw [if_pos (.inr h)]
      ·rfl
    clear hb2
    go_wp2_with fail
    go_ret
    rw [hres.out]
    exact ⟨rfl, HQ.out.1.fail, (HQ.out.2.keep [p]).trans (step_fail _ _ _ _)⟩
   | false =>
    have hres : Hid (upto ⟨s, false⟩ most = ((N : Int), ⟨tail, false⟩)) := by
     show _ = _
     rw [hue.out]
     simp only [Bool.or_eq_false_iff, Bool.not_eq_false', decide_eq_true_eq, decide_eq_false_iff_not] at hb2
     rw [if_pos hb2.1]
     simp only [uptoFin]
     rw [if_neg (by omega)]
    clear hb2
    go_wp2_with fail
    go_ret
    rw [hres.out]
    exact ⟨rfl, Blk.set HQ.out.1 0 (Str tail), ((HQ.out.2.keep [p])).setCell (.inl (by simp)) _⟩

/-- Num, whatever the reader holds. -/
theorem refNum_any (p : Nat) (st : RS) (most : Int) (w : World) (h : Ref w p st) (hs : st.s.length < 4611686018427387904) : Calls Tryz.prog 61 #[.pointer (some ⟨p, 0, none⟩), .int .i64 most] w (RefPost p (upto st most).2 (.int .i64 (upto st most).1) w) := by
 obtain ⟨s, bad⟩ := st
 simp only at hs
 cases bad with
 | true => exact refNum_none p _ most w h (.inl rfl)
 | false =>
  cases s with
  | nil => exact refNum_none p _ most w h (.inr rfl)
  | cons hd rest =>
   simp at hs
   by_cases c1 : 8 < hd.toNat ∨ (hd.toNat ≤ 8 ∧ rest.length < hd.toNat)
   ·have : upto ⟨hd :: rest, false⟩ most = (0, rfail) := by
     simp only [upto]
     rw [if_neg (by simp), if_pos (by omega)]
    rw [this]
    exact refNum_odd p hd rest most w h (by omega) c1
   ·have hlen : (rest.take hd.toNat).length = hd.toNat := by rw [List.length_take]; omega
    refine refNum_num p hd (rest.take hd.toNat) (rest.drop hd.toNat) (hd :: rest) most w (by rw [List.take_append_drop]) h (by simp; omega) hlen (by omega)

set_option maxHeartbeats 1000000 in
theorem refText_any (p : Nat) (st : RS) (most : Int) (w : World) (h : Ref w p st) (hs : st.s.length < 4611686018427387904) : Calls Tryz.prog 62 #[.pointer (some ⟨p, 0, none⟩), .int .i64 most] w (RefPost p (rtext st most).2 (Str (rtext st most).1) w) := by
 obtain ⟨n, hn⟩ : ∃ n : Nat, (upto st most).1 = (n : Int) := ⟨(upto st most).1.toNat, (Int.toNat_of_nonneg (upto_nat st most)).symm⟩
 obtain ⟨s2, bad2, h2⟩ : ∃ s2 bad2, (upto st most).2 = ⟨s2, bad2⟩ := ⟨_, _, rfl⟩
 have hlen := upto_len st most
 rw [h2] at hlen
 simp only at hlen
 have hrt : rtext st most = rtake ⟨s2, bad2⟩ n := by rw [rtext, h2, hn]; rfl
 have HRT := Lib.hid hrt
 clear hrt
 rw [HRT.out]
 have hs2 : s2.length < 4611686018427387904 := by omega
 go_enter Tryz.func62, Tryz.ntmps62
 go_wp2_with fail
 refine (refNum_any p st most w h hs).mono ?_
 rw [h2, hn]
 rintro e w1 ⟨rfl, hr1, k1⟩
 have c0 := hr1.c0
 have c1 := hr1.c1
 simp only at c0 c1
 have f0 := Blk.frozen hr1 0
 have f1 := Blk.frozen hr1 1
 have H1 := Lib.hid (And.intro hr1 k1)
 clear hr1 k1 h2 hn
 cases bad2 with
 | true =>
  go_wp2_with fail
  go_ret
  have e : rtake ⟨s2, true⟩ n = ([], rfail) := by simp [rtake]
  rw [e]
  exact ⟨rfl, H1.out.1.fail, H1.out.2.trans (step_fail _ _ _ _)⟩
 | false =>
  by_cases hlt : s2.length < n
  ·have hlt' : (s2.length : Int) < (n : Int) := by omega
   have e : Hid (rtake ⟨s2, false⟩ n = ([], rfail)) := by show _ = _; simp [rtake, hlt]
   clear hlt
   go_wp2_with fail
   go_ret
   rw [e.out]
   exact ⟨rfl, H1.out.1.fail, H1.out.2.trans (step_fail _ _ _ _)⟩
  ·have hlt' : ¬ (s2.length : Int) < (n : Int) := by omega
   have hle : n ≤ s2.length := by omega
   have hle' : (n : Int) ≤ s2.length := by omega
   have e : Hid (rtake ⟨s2, false⟩ n = (s2.take n, ⟨s2.drop n, false⟩)) := by show _ = _; simp [rtake, hlt]
   clear hlt
   go_wp2_with fail
   go_ret
   rw [e.out]
   exact ⟨rfl, Blk.set H1.out.1 0 (Str (s2.drop n)), H1.out.2.setCell (.inl (by simp)) _⟩

set_option maxHeartbeats 400000 in
theorem refDone_any (p : Nat) (st : RS) (w : World) (h : Ref w p st) (hs : st.s.length < 4611686018427387904) : Calls Tryz.prog 63 #[.pointer (some ⟨p, 0, none⟩)] w fun e w' => e = .returned (.bool (rend st == 0)) ∧ w = w' := by
 obtain ⟨s, bad⟩ := st
 have c0 := h.c0
 have c1 := h.c1
 simp only at c0 c1
 cases bad with
 | true =>
  have e : (rend ⟨s, true⟩ == 0) = false := by simp [rend]
  rw [e]
  clear e
  go_enter Tryz.func63, Tryz.ntmps63
  go_wp2_with fail
  go_ret
  exact ⟨rfl, rfl⟩
 | false =>
  obtain ⟨b, hb⟩ : ∃ b, b = ((s.length : Int) == 0) := ⟨_, rfl⟩
  have e : (rend ⟨s, false⟩ == 0) = b := by
   rw [hb]
   cases s with
   | nil => rfl
   | cons a r => simp [rend]; omega
  rw [e]
  have hb' := hb.symm
  clear e hb
  go_enter Tryz.func63, Tryz.ntmps63
  go_wp2_with fail
  go_ret
  exact ⟨rfl, rfl⟩
end Go.Proofs.YtjdgdmlhipbaaaaGreatDoor
