/-
 WalCrash: wherever the power goes while records are put, behind it there is a beginning of them, with all that were put ahead of the last Sync. The row lists the library's variables as Go lays them. No condition beyond the row's.
-/
import Derived.Test.YtnkbphecabnnaaaGreatDoorZGW
namespace Go.Proofs.YtnkbphecabnnaaaGreatDoor
open Go.RowKit Go.Lib Go.ChangeShapes Go.WideShapes Go.ChangeAt Go.Maps
set_option linter.unusedSimpArgs false
set_option linter.unusedVariables false
set_option maxRecDepth 100000

theorem Tryz.info_wbool : (Tryz.prog.info? 4).map (fun i => (i.zero, i.size, i.bytes)) = some (some (.bool false), 1, 1) := by kernel_rfl
def pv (p : Rc × Bool) : List Value := [.int .i64 p.1.k, .int .i64 p.1.i, .int .i64 p.1.t, .int .i64 p.1.v, Str p.1.dt, .bool p.2]
theorem pv_len (p : Rc × Bool) : (pv p).length = 6 := rfl
def pvs (l : List (Rc × Bool)) : List Value := l.flatMap pv
theorem rd_pv {w : World} {l : List (Rc × Bool)} {g off : Nat} {sp n} (h : Rd w 6 (some ⟨g, off, sp⟩) n (pvs l)) {k : Nat} {x : Rc × Bool} (hx : l[k]? = some x) :
  w.cell? ⟨g, off + k * 6, none⟩ = some (.int .i64 x.1.k) ∧ w.cell? ⟨g, off + k * 6 + 1, none⟩ = some (.int .i64 x.1.i) ∧ w.cell? ⟨g, off + k * 6 + 2, none⟩ = some (.int .i64 x.1.t) ∧ w.cell? ⟨g, off + k * 6 + 3, none⟩ = some (.int .i64 x.1.v) ∧ w.cell? ⟨g, off + k * 6 + 4, none⟩ = some (Str x.1.dt) ∧ w.cell? ⟨g, off + k * 6 + 5, none⟩ = some (.bool x.2) :=
 ⟨rd_fl pv 6 pv_len h hx 0 (by omega) _ rfl, rd_fl pv 6 pv_len h hx 1 (by omega) _ rfl, rd_fl pv 6 pv_len h hx 2 (by omega) _ rfl, rd_fl pv 6 pv_len h hx 3 (by omega) _ rfl, rd_fl pv 6 pv_len h hx 4 (by omega) _ rfl, rd_fl pv 6 pv_len h hx 5 (by omega) _ rfl⟩
theorem op_pv {w : World} {cs : List Value} (h : Op Tryz.prog w 47 cs) : ∃ p : Rc × Bool, cs = pv p ∧ p.1.dt.length ≤ 140737488351232 := by
 obtain ⟨hl, _⟩ := h.struct Tryz.underlying47
 rw [show Tryz.prog.cellsOf 47 = 6 by kernel_rfl] at hl
 obtain ⟨c0, c1, c2, c3, c4, c5, rfl⟩ : ∃ a0 a1 a2 a3 a4 a5, cs = [a0, a1, a2, a3, a4, a5] := by
  match cs, hl with
  | [a0, a1, a2, a3, a4, a5], _ => exact ⟨a0, a1, a2, a3, a4, a5, rfl⟩
 have g0 := h.fieldD Tryz.underlying47 0 0 45 (by kernel_rfl)
 have g1 := h.fieldD Tryz.underlying47 1 5 4 (by kernel_rfl)
 rw [show Tryz.prog.cellsOf 45 = 5 by kernel_rfl] at g0
 rw [show Tryz.prog.cellsOf 4 = 1 by kernel_rfl] at g1
 obtain ⟨r, e0, hr⟩ := op_rc g0
 obtain ⟨x, e1⟩ := g1.bool Tryz.underlying4
 simp [rcc] at e0 e1
 obtain ⟨rfl, rfl, rfl, rfl, rfl⟩ := e0
 subst e1
 exact ⟨(r, x), rfl, hr⟩
theorem op_pvs {w : World} {v : Value} {b0 : Nat} (h1 : Value.okWide Tryz.prog w .any b0 41 v) (o1 : Op Tryz.prog w 41 v.cells.toList) : ∃ (l : List (Rc × Bool)) (a : Option Addr) (cap : Nat), v = .slice a l.length cap ∧ Rd w 6 a l.length (pvs l) ∧ (∀ p ∈ l, p.1.dt.length ≤ 140737488351232) ∧ l.length ≤ 9223372036854775807 := by
 obtain ⟨a, n, cap, rfl⟩ := okWide_slice Tryz.underlying41 h1
 obtain ⟨a2, n2, cap2, e, h1, h2, h3, h4⟩ := o1.slice Tryz.underlying41 (sz := 6) (by kernel_rfl)
 simp [Value.cells] at e
 obtain ⟨rfl, rfl, rfl⟩ := e
 obtain ⟨l, hl, hr, hq⟩ := rd_of (w := w) pv 6 (by omega) pv_len (a := a) (n := n) (fun p => p.1.dt.length ≤ 140737488351232) (fun i hi => by
  obtain ⟨cs', hlen, ⟨ad, hx, hc⟩, hop⟩ := h4 i hi
  obtain ⟨p, e2, hB⟩ := op_pv hop
  subst e2
  exact ⟨p, ⟨ad, hx, hc⟩, hB⟩)
 subst hl
 exact ⟨l, _, _, rfl, hr, hq, by unfold maxLen at h2; omega⟩
theorem op_ints' {w : World} {v : Value} {b0 : Nat} (h1 : Value.okWide Tryz.prog w .any b0 42 v) (o1 : Op Tryz.prog w 42 v.cells.toList) : ∃ (l : List Int) (a : Option Addr) (cap : Nat), v = .slice a l.length cap ∧ Rd w 1 a l.length (l.map (Value.int .i64)) ∧ l.length ≤ maxLen := by
 obtain ⟨a9, n9, c9, rfl⟩ := okWide_slice Tryz.underlying42 h1
 obtain ⟨l, a, cap2, e2, g1, g2, g3⟩ := op_ints o1
 simp [Value.cells] at e2
 obtain ⟨rfl, e3, rfl⟩ := e2
 subst e3
 exact ⟨l, _, _, rfl, g3, by omega⟩
def bls (l : List Bool) : List Value := l.map Value.bool
theorem bls_one (l : List Bool) : ∀ u ∈ bls l, u.oneCell' = true := by
 intro u hu
 obtain ⟨x, _, rfl⟩ := List.mem_map.1 hu
 rfl
structure WcW (w W : World) (la sa : Option Addr) (n1 n2 lc sc : Nat) (L : List Rc) (B : List Bool) : Prop where
 rl : Row W 5 la n1 lc (rcs L)
 rs : Row W 1 sa n2 sc (bls B)
 dis : ∀ g, g ∈ blks la → g ∉ blks sa
 fl : ∀ g, g ∈ blks la ++ blks sa → w.heap.size ≤ g
 st : Step [] (blks la ++ blks sa) w W
section
variable {w W W1 : World} {la sa : Option Addr} {n1 n2 lc sc : Nat} {L L1 : List Rc} {B B1 : List Bool} {T : List Nat}
theorem WcW.quiet (h : WcW w W la sa n1 n2 lc sc L B) (k : Step [] T W W1) : WcW w W1 la sa n1 n2 lc sc L B := ⟨h.rl.step k (by simp), h.rs.step k (by simp), h.dis, h.fl, h.st.trans ((k.drop (S'' := []) (by simp)).keep _)⟩
theorem WcW.growl (h : WcW w W la sa n1 n2 lc sc L B) {a : Option Addr} {m c : Nat} (hr : Row W1 5 a m c (rcs L1)) (k : Step (blks la) (blks a) W W1) : WcW w W1 a sa m n2 c sc L1 B :=
 ⟨hr, h.rs.step k (fun g hg hm => h.dis g hm hg), fun g hg hs => by
  rcases k.fresh g hg with h1 | h1
  ·exact h.dis g h1 hs
  ·have := h.rs.lt g hs; omega, fun g hg => by
  rcases List.mem_append.1 hg with hg | hg
  ·rcases k.fresh g hg with h1 | h1
   ·exact h.fl g (List.mem_append.2 (.inl h1))
   ·exact Nat.le_trans h.st.size h1
  ·exact h.fl g (List.mem_append.2 (.inr hg)), h.st.trans (k.frameR (blks sa))⟩
theorem WcW.grows (h : WcW w W la sa n1 n2 lc sc L B) {a : Option Addr} {m c : Nat} (hr : Row W1 1 a m c (bls B1)) (k : Step (blks sa) (blks a) W W1) : WcW w W1 la a n1 m lc c L B1 :=
 ⟨h.rl.step k (fun g hg hm => h.dis g hg hm), hr, fun g hg hs => by
  rcases k.fresh g hs with h1 | h1
  ·exact h.dis g hg h1
  ·have := h.rl.lt g hg; omega, fun g hg => by
  rcases List.mem_append.1 hg with hg | hg
  ·exact h.fl g (List.mem_append.2 (.inl hg))
  ·rcases k.fresh g hg with h1 | h1
   ·exact h.fl g (List.mem_append.2 (.inr h1))
   ·exact Nat.le_trans h.st.size h1, h.st.trans (k.frame (blks la))⟩
end
def KeptL (n : Nat) (L : List Rc) (B : List Bool) : Prop := L.length = n ∧ B.length = n ∧ ∀ r ∈ L, rightRc r = true ∧ r.dt.length ≤ 1000
theorem letterW {K : Act → World → Prop} {a : Act} {w : World} (h : ∀ U, U = w → K a U) : K a w := h w rfl
/-- While the records are put. -/
structure WcP (w W : World) (la sa : Option Addr) (lc sc : Nat) (L : List Rc) (B : List Bool) (S : List Nat) (d b : Nat) (x : Wl) (s : St) : Prop where
 lw : LW w W S d b x s
 rl : Row W 5 la L.length lc (rcs L)
 rs : Row W 1 sa B.length sc (bls B)
 nl : ∀ g, g ∈ blks la → g ∉ b :: S
 ns : ∀ g, g ∈ blks sa → g ∉ b :: S
section
variable {w W W1 : World} {la sa : Option Addr} {lc sc : Nat} {L : List Rc} {B : List Bool} {S S1 T : List Nat} {d b : Nat} {x x1 : Wl} {s s1 : St}
theorem WcP.quiet (h : WcP w W la sa lc sc L B S d b x s) (k : Step [] T W W1) : WcP w W1 la sa lc sc L B S d b x s := ⟨h.lw.quiet k, h.rl.step k (by simp), h.rs.step k (by simp), h.nl, h.ns⟩
theorem WcP.next (h : WcP w W la sa lc sc L B S d b x s) (k : WM W W1 S S1 d b x1 s1) : WcP w W1 la sa lc sc L B S1 d b x1 s1 :=
 ⟨h.lw.next k, h.rl.step k.st h.nl, h.rs.step k.st h.ns, fun g hg => k.st.notin (h.rl.lt g hg) (h.nl g hg), fun g hg => k.st.notin (h.rs.lt g hg) (h.ns g hg)⟩
theorem WcP.turn (h : WcP w W la sa lc sc L B S d b x s) (hd : Dk W1 S1 d s1) (k : Step S S1 W W1) : WcP w W1 la sa lc sc L B S1 d b x s1 :=
 ⟨h.lw.turn hd k, h.rl.step k (fun g hg hm => h.nl g hg (by simp [hm])), h.rs.step k (fun g hg hm => h.ns g hg (by simp [hm])),
  fun g hg hm => by
    rcases List.mem_cons.1 hm with e | hm
    · exact h.nl g hg (by simp [e])
    · exact k.notin (h.rl.lt g hg) (fun hx => h.nl g hg (by simp [hx])) hm,
  fun g hg hm => by
    rcases List.mem_cons.1 hm with e | hm
    · exact h.ns g hg (by simp [e])
    · exact k.notin (h.rs.lt g hg) (fun hx => h.ns g hg (by simp [hx])) hm⟩
end
/-- What is there when the putting ends. -/
def CrDone (w W : World) (la sa : Option Addr) (lc sc : Nat) (L : List Rc) (B : List Bool) (d b put sure : Nat) : Prop :=
 ∃ S x s m Rs A C, WcP w W la sa lc sc L B S d b x s ∧ CrIs (L.take m) sure s.E Rs A C ∧ m ≤ put ∧ put ≤ L.length ∧ Ok6 s 60
set_option maxHeartbeats 16000000 in
theorem crash07_any (ps : List (Rc × Bool)) (fz : Nat) (keep : List Int) (pa ka : Option Addr) (pc kc : Nat) (w : World) (hT : PTab w) (hU : Tabs w) (hr : Rd w 6 pa ps.length (pvs ps)) (hb : ∀ p ∈ ps, p.1.dt.length ≤ 140737488351232) (hl : ps.length ≤ 9223372036854775807) (hf : fz < 256) (hkr : Rd w 1 ka keep.length (keep.map (Value.int .i64))) (hkl : keep.length ≤ maxLen) :
  Calls Tryz.prog 5 #[.slice pa ps.length pc, .int .u8 (fz : Int), .slice ka keep.length kc] w fun e w' => e = .returned (.bool true) ∧ Step [] [] w w' := by
 obtain ⟨i0, hi, hz0, hz1, hz2⟩ := info_parts Tryz.info_rec
 have HI := Lib.hid (And.intro hi (And.intro hz0 (And.intro hz1 hz2)))
 clear hi hz0 hz1 hz2
 obtain ⟨i1, hi, hz0, hz1, hz2⟩ := info_parts Tryz.info_wbool
 have HI1 := Lib.hid (And.intro hi (And.intro hz0 (And.intro hz1 hz2)))
 clear hi hz0 hz1 hz2
 have HT := Lib.hid (And.intro hT hU)
 have HR := Lib.hid (And.intro hr (And.intro hb (And.intro hkr hkl)))
 clear hT hU hr hb hkr hkl
 obtain ⟨N, hN⟩ : ∃ N, N = ps.length := ⟨_, rfl⟩
 have HN := Lib.hid hN
 rw [← hN] at hl ⊢
 clear hN
 go_enter Tryz.func5, Tryz.ntmps5
 go_wp2_with fail
 refine (awake07_true w HT.out.1 HT.out.2).mono ?_
 rintro e w1 ⟨rfl, k1⟩
 have H1 := Lib.hid k1
 clear k1
 go_upto_block 0 with fail
 go_cut [7, 8] (fun lv sv Wx => ∃ (la sa : Option Addr) (n lc sc : Nat), lv = .slice la n lc ∧ sv = .slice sa n sc ∧ n ≤ 40 ∧ Hid (∃ L B, WcW w Wx la sa n n lc sc L B ∧ KeptL n L B))
 case first =>
  go_wp2_with fail
  go_loopw [9, 7, 8] (fun i lv sv Wx => ∃ (j : Nat) (la sa : Option Addr) (n lc sc : Nat), i = .int .i64 j ∧ lv = .slice la n lc ∧ sv = .slice sa n sc ∧ j ≤ 40 ∧ j ≤ N ∧ n ≤ j ∧ Hid (∃ L B, WcW w Wx la sa n n lc sc L B ∧ KeptL n L B)) (fun i _ _ _ => 40 - (intOf i).toNat)
  case atStart => exact ⟨0, none, none, 0, 0, 0, rfl, rfl, rfl, by omega, by omega, by omega, Lib.hid ⟨[], [], ⟨Row.none _ _, Row.none _ _, by simp [blks], by simp [blks], by simpa [blks] using H1.out⟩, rfl, rfl, by simp⟩⟩
  case round =>
   rename World => Wr
   obtain ⟨j, la, sa, n, lc, sc, rfl, rfl, rfl, hj, hjN, hn, HW⟩ := hrel
   by_cases h1 : j < N
   case neg =>
    have h1' : ¬ (j : Int) < (N : Int) := by omega
    go_wp2_with fail
    go_meet
    exact ⟨la, sa, n, lc, sc, rfl, rfl, by omega, HW⟩
   have h1' : (j : Int) < (N : Int) := by omega
   by_cases h40 : j < 40
   case neg =>
    have h40' : ¬ (j : Int) < 40 := by omega
    go_wp2_with fail
    go_meet
    exact ⟨la, sa, n, lc, sc, rfl, rfl, by omega, HW⟩
   have h40' : (j : Int) < 40 := by omega
   obtain ⟨p, hx⟩ : ∃ p, ps[j]? = some p := ⟨_, List.getElem?_eq_getElem (by rw [← HN.out]; exact h1)⟩
   obtain ⟨L, B, hcw, hkp⟩ := HW.out
   have HC := Lib.hid (And.intro hcw hkp)
   clear hcw hkp HW
   have hrd := HR.out.1.step0 HC.out.1.st
   rw [← HN.out] at hrd
   obtain ⟨g, off, rfl⟩ := hrd.some_ (by omega)
   have hrw := HR.out.1
   rw [← HN.out] at hrw
   have HZ := Lib.hid (rd_pv hrw hx)
   obtain ⟨z0, z1, z2, z3, z4, z5⟩ := rd_pv hrd hx
   have gl : g < Wr.heap.size := by have := World.block_lt_of_cell? _ _ z0; simpa using this
   have hdm : p.1.dt.length ≤ 140737488351232 := HR.out.2.1 p (List.mem_of_getElem? hx)
   have hj0 : (0 : Int) ≤ (j : Int) := by omega
   obtain ⟨r, sy⟩ := p
   simp only at z0 z1 z2 z3 z4 z5 hdm HZ
   clear hx hrd hrw
   by_cases hdt : r.dt.length ≤ 1000
   case neg =>
    have hdt' : ¬ (r.dt.length : Int) ≤ 1000 := by omega
    go_wp2_with fail
    go_roundw
    case rel => exact ⟨j + 1, la, sa, n, lc, sc, by go_num, rfl, rfl, by omega, by omega, by omega, Lib.hid ⟨L, B, HC.out.1, HC.out.2⟩⟩
    case measure => simp [intOf]; omega
   have hdt' : (r.dt.length : Int) ≤ 1000 := by omega
   go_wp2_with fail
   refine (rright_any r Wr hdm).mono ?_
   rintro e w2 ⟨rfl, k2⟩
   have H2 : Hid (WcW w w2 la sa n n lc sc L B ∧ KeptL n L B) := Lib.hid ⟨HC.out.1.quiet k2, HC.out.2⟩
   clear k2 HC z0 z1 z2 z3 z4 z5 gl
   cases hrr : rightRc r with
   | false =>
    clear hrr
    go_wp2_with fail
    go_roundw
    case rel => exact ⟨j + 1, la, sa, n, lc, sc, by go_num, rfl, rfl, by omega, by omega, by omega, Lib.hid ⟨L, B, H2.out.1, H2.out.2⟩⟩
    case measure => simp [intOf]; omega
   | true =>
    have HRR := Lib.hid hrr
    clear hrr
    go_upto_region 9 with fail
    obtain ⟨V, hV⟩ : ∃ V, V = w2.drew := ⟨_, rfl⟩
    have C0 : Hid (WcW w V la sa n n lc sc L B) := Lib.hid (by rw [hV]; exact H2.out.1.quiet ((Step.refl [] w2).drew))
    have HKP : Hid (KeptL n L B) := Lib.hid H2.out.2
    have gl : g < V.heap.size := by
     have z := C0.out.st.cell HZ.out.1 (by simp)
     have := World.block_lt_of_cell? _ _ z
     simpa using this
    clear H2
    refine wp_region_held_drew (S := fun W => Hid (∃ T, Step [] T w W)) (by kernel_rfl) (Lib.hid ⟨_, by rw [← hV]; exact C0.out.st⟩) (fun hHeld => ?_)
    rw [← hV] at hHeld ⊢
    clear hV
    refine wpAnyH_take (i := 0) (v := ?_) rfl (by kernel_rfl) (by kernel_rfl) (by kernel_rfl) (fun _ _ _ h => h) (Or.inl ⟨by rfl, ?_⟩) hHeld ?_
    rotate_left
    ·intro w hSw1
     try dsimp only at hSw1
     go_simp
     try (with_reducible rfl)
    try simp only [Act.put, LsA, LsB, LsC, LsD, LsE, LsF]
    refine wpAnyH_take (i := 1) (v := ?_) rfl (by kernel_rfl) (by kernel_rfl) (by kernel_rfl) (fun _ _ _ h => h) (Or.inl ⟨by rfl, ?_⟩) hHeld ?_
    rotate_left
    ·intro w hSw1
     try dsimp only at hSw1
     go_simp
     try (with_reducible rfl)
    try simp only [Act.put, LsA, LsB, LsC, LsD, LsE, LsF]
    refine wpAnyH_take (i := 2) (v := ?_) rfl (by kernel_rfl) (by kernel_rfl) (by kernel_rfl) (fun _ _ _ h => h) (Or.inl ⟨by rfl, ?_⟩) hHeld ?_
    rotate_left
    ·intro w hSw1
     try dsimp only at hSw1
     go_simp
     try (with_reducible rfl)
    try simp only [Act.put, LsA, LsB, LsC, LsD, LsE, LsF]
    refine wpAnyH_take (i := 3) (v := ?_) rfl (by kernel_rfl) (by kernel_rfl) (by kernel_rfl) (fun _ _ _ h => h) (Or.inl ⟨by rfl, ?_⟩) hHeld ?_
    rotate_left
    ·intro w hSw1
     try dsimp only at hSw1
     go_simp
     try (with_reducible rfl)
    try simp only [Act.put, LsA, LsB, LsC, LsD, LsE, LsF]
    refine wpAnyH_take (i := 4) (v := ?_) rfl (by kernel_rfl) (by kernel_rfl) (by kernel_rfl) (fun _ _ _ h => h) (Or.inl ⟨by rfl, ?_⟩) hHeld ?_
    rotate_left
    ·intro w hSw1
     try dsimp only at hSw1
     go_simp
     try (with_reducible rfl)
    try simp only [Act.put, LsA, LsB, LsC, LsD, LsE, LsF]
    refine wpAnyH_take (i := 5) (v := ?_) rfl (by kernel_rfl) (by kernel_rfl) (by kernel_rfl) (fun _ _ _ h => h) (Or.inl ⟨by rfl, ?_⟩) hHeld ?_
    rotate_left
    ·intro w hSw1
     obtain ⟨T, hT⟩ := hSw1.out
     have z0 := hT.cell HZ.out.1 (by simp)
     have z1 := hT.cell HZ.out.2.1 (by simp)
     have z2 := hT.cell HZ.out.2.2.1 (by simp)
     have z3 := hT.cell HZ.out.2.2.2.1 (by simp)
     have z4 := hT.cell HZ.out.2.2.2.2.1 (by simp)
     go_simp
     try (with_reducible rfl)
    try simp only [Act.put, LsA, LsB, LsC, LsD, LsE, LsF]
    refine wpAnyH_take (i := 8) (v := ?_) rfl (by kernel_rfl) (by kernel_rfl) (by kernel_rfl) (fun _ _ _ h => h) (Or.inl ⟨by rfl, ?_⟩) hHeld ?_
    rotate_left
    ·intro w hSw1
     try dsimp only at hSw1
     go_simp
     try (with_reducible rfl)
    try simp only [Act.put, LsA, LsB, LsC, LsD, LsE, LsF]
    refine wpAnyH_take (i := 9) (v := ?_) rfl (by kernel_rfl) (by kernel_rfl) (by kernel_rfl) (fun _ _ _ h => h) (Or.inl ⟨by rfl, ?_⟩) hHeld ?_
    rotate_left
    ·intro w hSw1
     try dsimp only at hSw1
     go_simp
     try (with_reducible rfl)
    try simp only [Act.put, LsA, LsB, LsC, LsD, LsE, LsF]
    refine wpAnyH_take (i := 10) (v := ?_) rfl (by kernel_rfl) (by kernel_rfl) (by kernel_rfl) (fun _ _ _ h => h) (Or.inl ⟨by rfl, ?_⟩) hHeld ?_
    rotate_left
    ·intro w hSw1
     try dsimp only at hSw1
     go_simp
     try (with_reducible rfl)
    try simp only [Act.put, LsA, LsB, LsC, LsD, LsE, LsF]
    refine wpAnyH_take (i := 11) (v := ?_) rfl (by kernel_rfl) (by kernel_rfl) (by kernel_rfl) (fun _ _ _ h => h) (Or.inl ⟨by rfl, ?_⟩) hHeld ?_
    rotate_left
    ·intro w hSw1
     try dsimp only at hSw1
     go_simp
     try (with_reducible rfl)
    try simp only [Act.put, LsA, LsB, LsC, LsD, LsE, LsF]
    refine wpAnyH_take (i := 12) (v := ?_) rfl (by kernel_rfl) (by kernel_rfl) (by kernel_rfl) (fun _ _ _ h => h) (Or.inl ⟨by rfl, ?_⟩) hHeld ?_
    rotate_left
    ·intro w hSw1
     try dsimp only at hSw1
     go_simp
     try (with_reducible rfl)
    try simp only [Act.put, LsA, LsB, LsC, LsD, LsE, LsF]
    refine wpAnyH_take (i := 13) (v := ?_) rfl (by kernel_rfl) (by kernel_rfl) (by kernel_rfl) (fun _ _ _ h => h) (Or.inl ⟨by rfl, ?_⟩) hHeld ?_
    rotate_left
    ·intro w hSw1
     obtain ⟨T, hT⟩ := hSw1.out
     have z5 := hT.cell HZ.out.2.2.2.2.2 (by simp)
     go_simp
     try (with_reducible rfl)
    try simp only [Act.put, LsA, LsB, LsC, LsD, LsE, LsF]
    refine wpAnyH_ready (rs := [6, 14]) (by kernel_rfl) (by simp) ?_
    refine AllReadyH.cons rfl (fun K hK => ?_) (AllReadyH.cons rfl (fun K hK => ?_) (AllReadyH.nil))
    ·skip
     go_simp; go_wp2_with fail; refine letterW (K := K) ?_; intro U6 hU6; obtain ⟨e6, he6⟩ : ∃ e6, e6 = V.heap.size := ⟨_, rfl⟩; have C6 : Hid (WcW w U6 la sa n n lc sc L B) := Lib.hid (by rw [hU6]; exact C0.out.quiet ((Step.refl [] _).alloc _)); have B6 : Hid (Rd U6 5 (some ⟨e6, 0, none⟩) 1 (rcc r)) := Lib.hid (by rw [hU6, he6]; exact rd_blk' (xs := rcc r) (Blk.new _ _ _) 5 1 rfl); rw [← he6]; clear hU6 he6
     refine hK.out _ _ (Lib.hid ⟨_, C6.out.st⟩) (fun hHeld2 => ?_)
     clear hK K hHeld
     try simp only [Act.put, LsA, LsB, LsC, LsD, LsE, LsF]
     refine wpAnyH_ready (rs := [7, 14]) (by kernel_rfl) (by simp) ?_
     refine AllReadyH.cons rfl (fun K hK => ?_) (AllReadyH.cons rfl (fun K hK => ?_) (AllReadyH.nil))
     ·skip
      refine step_append_row rfl (.tmp 49) (.tmp 55) 32 32 rfl 45 i0 _ 5 48 Tryz.underlying32 HI.out.1 HI.out.2.1 HI.out.2.2.1 HI.out.2.2.2 rfl rfl C6.out.rl rfl (Src.rd 32 45 Tryz.underlying32 B6.out (rcc_ones r)) (by unfold maxLen; omega) (by omega) (by omega) ?_; intro a7 c7 u7 r7 k7; have C7 : Hid (WcW w u7 a7 sa (n + 1) n c7 sc (L ++ [r]) B) := Lib.hid (C6.out.growl (by rw [rcs_snoc]; exact r7) k7); clear r7 k7
      refine hK.out _ _ (Lib.hid ⟨_, C7.out.st⟩) (fun hHeld3 => ?_)
      clear hK K hHeld2
      try simp only [Act.put, LsA, LsB, LsC, LsD, LsE, LsF]
      refine wpAnyH_ready (rs := [14]) (by kernel_rfl) (by simp) ?_
      refine AllReadyH.cons rfl (fun K hK => ?_) AllReadyH.nil
      go_simp; go_wp2_with fail; refine letterW (K := K) ?_; intro U14 hU14; obtain ⟨e14, he14⟩ : ∃ e14, e14 = u7.heap.size := ⟨_, rfl⟩; have C14 : Hid (WcW w U14 a7 sa (n + 1) n c7 sc (L ++ [r]) B) := Lib.hid (by rw [hU14]; exact C7.out.quiet ((Step.refl [] _).alloc _)); have B14 : Hid (Rd U14 1 (some ⟨e14, 0, none⟩) 1 (bls [sy]) ∧ ∀ g, g ∈ blks a7 → g ≠ e14) := Lib.hid ⟨by rw [hU14, he14]; exact rd_blk' (xs := bls [sy]) (Blk.new _ _ _) 1 1 rfl, fun g hg e => by have := C7.out.rl.lt g hg; omega⟩; rw [← he14]; clear hU14 he14
      refine hK.out _ _ (Lib.hid ⟨_, C14.out.st⟩) (fun hHeld4 => ?_)
      clear hK K hHeld3
      try simp only [Act.put, LsA, LsB, LsC, LsD, LsE, LsF]
      refine wpAnyH_ready (rs := [15]) (by kernel_rfl) (by simp) ?_
      refine AllReadyH.cons rfl (fun K hK => ?_) AllReadyH.nil
      refine step_append_row rfl (.tmp 57) (.tmp 63) 43 43 rfl 4 i1 _ 1 1 Tryz.underlying43 HI1.out.1 HI1.out.2.1 HI1.out.2.2.1 HI1.out.2.2.2 rfl rfl C14.out.rs rfl (Src.rd 43 4 Tryz.underlying43 B14.out.1 (bls_one [sy])) (by unfold maxLen; omega) (by omega) (by omega) ?_; intro a15 c15 u15 r15 k15; have C15 : Hid (WcW w u15 a7 a15 (n + 1) (n + 1) c7 c15 (L ++ [r]) (B ++ [sy])) := Lib.hid (C14.out.grows (by rw [show bls (B ++ [sy]) = bls B ++ bls [sy] by simp [bls]]; exact r15) k15); clear r15 k15
      refine hK.out _ _ (Lib.hid ⟨_, C15.out.st⟩) (fun hHeld5 => ?_)
      clear hK K hHeld4
      try simp only [Act.put, LsA, LsB, LsC, LsD, LsE, LsF]
      refine wpAnyH_take (i := 16) (v := ?_) rfl (by kernel_rfl) (by kernel_rfl) (by kernel_rfl) (fun _ _ _ h => h) (Or.inl ⟨by rfl, ?_⟩) hHeld5 ?_
      rotate_left
      ·intro w hSw1
       try dsimp only at hSw1
       go_simp
       try (with_reducible rfl)
      try simp only [Act.put, LsA, LsB, LsC, LsD, LsE, LsF]
      refine wpAnyH_take (i := 17) (v := ?_) rfl (by kernel_rfl) (by kernel_rfl) (by kernel_rfl) (fun _ _ _ h => h) (Or.inl ⟨by rfl, ?_⟩) hHeld5 ?_
      rotate_left
      ·intro w hSw1
       try dsimp only at hSw1
       go_simp
       try (with_reducible rfl)
      try simp only [Act.put, LsA, LsB, LsC, LsD, LsE, LsF]
      refine wpAnyH_done (by kernel_rfl) ?_ _
      have HN9 : Hid (∃ L B, WcW w u15 a7 a15 (n + 1) (n + 1) c7 c15 L B ∧ KeptL (n + 1) L B) := Lib.hid ⟨L ++ [r], B ++ [sy], C15.out, by rw [List.length_append, HKP.out.1]; rfl, by rw [List.length_append, HKP.out.2.1]; rfl, fun x hx => by
       rcases List.mem_append.1 hx with hx | hx
       ·exact HKP.out.2.2 x hx
       ·simp only [List.mem_singleton] at hx; subst hx; exact ⟨HRR.out, hdt⟩⟩
      go_wp2_with fail
      go_roundw
      case rel => exact ⟨j + 1, a7, a15, n + 1, c7, c15, by go_num, by go_num, by go_num, by omega, by omega, by omega, HN9⟩
      case measure => simp [intOf]; omega
     ·skip
      go_simp; go_wp2_with fail; refine letterW (K := K) ?_; intro U14 hU14; obtain ⟨e14, he14⟩ : ∃ e14, e14 = U6.heap.size := ⟨_, rfl⟩; have C14 : Hid (WcW w U14 la sa n n lc sc L B) := Lib.hid (by rw [hU14]; exact C6.out.quiet ((Step.refl [] _).alloc _)); have B14 : Hid (Rd U14 1 (some ⟨e14, 0, none⟩) 1 (bls [sy]) ∧ ∀ g, g ∈ blks la → g ≠ e14) := Lib.hid ⟨by rw [hU14, he14]; exact rd_blk' (xs := bls [sy]) (Blk.new _ _ _) 1 1 rfl, fun g hg e => by have := C6.out.rl.lt g hg; omega⟩; have B6x : Hid (Rd U14 5 (some ⟨e6, 0, none⟩) 1 (rcc r)) := Lib.hid (by rw [hU14]; exact B6.out.step0 ((Step.refl [] _).alloc _)); rw [← he14]; clear hU14 he14
      refine hK.out _ _ (Lib.hid ⟨_, C14.out.st⟩) (fun hHeld3 => ?_)
      clear hK K hHeld2
      try simp only [Act.put, LsA, LsB, LsC, LsD, LsE, LsF]
      refine wpAnyH_ready (rs := [7]) (by kernel_rfl) (by simp) ?_
      refine AllReadyH.cons rfl (fun K hK => ?_) AllReadyH.nil
      refine step_append_row rfl (.tmp 49) (.tmp 55) 32 32 rfl 45 i0 _ 5 48 Tryz.underlying32 HI.out.1 HI.out.2.1 HI.out.2.2.1 HI.out.2.2.2 rfl rfl C14.out.rl rfl (Src.rd 32 45 Tryz.underlying32 B6x.out (rcc_ones r)) (by unfold maxLen; omega) (by omega) (by omega) ?_; intro a7 c7 u7 r7 k7; have C7 : Hid (WcW w u7 a7 sa (n + 1) n c7 sc (L ++ [r]) B) := Lib.hid (C14.out.growl (by rw [rcs_snoc]; exact r7) k7); have B14y : Hid (Rd u7 1 (some ⟨e14, 0, none⟩) 1 (bls [sy]) ∧ True) := Lib.hid ⟨B14.out.1.step k7 (fun g hg hm => B14.out.2 g hm (by simpa [blks] using hg)), trivial⟩; clear r7 k7
      refine hK.out _ _ (Lib.hid ⟨_, C7.out.st⟩) (fun hHeld4 => ?_)
      clear hK K hHeld3
      try simp only [Act.put, LsA, LsB, LsC, LsD, LsE, LsF]
      refine wpAnyH_ready (rs := [15]) (by kernel_rfl) (by simp) ?_
      refine AllReadyH.cons rfl (fun K hK => ?_) AllReadyH.nil
      refine step_append_row rfl (.tmp 57) (.tmp 63) 43 43 rfl 4 i1 _ 1 1 Tryz.underlying43 HI1.out.1 HI1.out.2.1 HI1.out.2.2.1 HI1.out.2.2.2 rfl rfl C7.out.rs rfl (Src.rd 43 4 Tryz.underlying43 B14y.out.1 (bls_one [sy])) (by unfold maxLen; omega) (by omega) (by omega) ?_; intro a15 c15 u15 r15 k15; have C15 : Hid (WcW w u15 a7 a15 (n + 1) (n + 1) c7 c15 (L ++ [r]) (B ++ [sy])) := Lib.hid (C7.out.grows (by rw [show bls (B ++ [sy]) = bls B ++ bls [sy] by simp [bls]]; exact r15) k15); clear r15 k15
      refine hK.out _ _ (Lib.hid ⟨_, C15.out.st⟩) (fun hHeld5 => ?_)
      clear hK K hHeld4
      try simp only [Act.put, LsA, LsB, LsC, LsD, LsE, LsF]
      refine wpAnyH_take (i := 16) (v := ?_) rfl (by kernel_rfl) (by kernel_rfl) (by kernel_rfl) (fun _ _ _ h => h) (Or.inl ⟨by rfl, ?_⟩) hHeld5 ?_
      rotate_left
      ·intro w hSw1
       try dsimp only at hSw1
       go_simp
       try (with_reducible rfl)
      try simp only [Act.put, LsA, LsB, LsC, LsD, LsE, LsF]
      refine wpAnyH_take (i := 17) (v := ?_) rfl (by kernel_rfl) (by kernel_rfl) (by kernel_rfl) (fun _ _ _ h => h) (Or.inl ⟨by rfl, ?_⟩) hHeld5 ?_
      rotate_left
      ·intro w hSw1
       try dsimp only at hSw1
       go_simp
       try (with_reducible rfl)
      try simp only [Act.put, LsA, LsB, LsC, LsD, LsE, LsF]
      refine wpAnyH_done (by kernel_rfl) ?_ _
      have HN9 : Hid (∃ L B, WcW w u15 a7 a15 (n + 1) (n + 1) c7 c15 L B ∧ KeptL (n + 1) L B) := Lib.hid ⟨L ++ [r], B ++ [sy], C15.out, by rw [List.length_append, HKP.out.1]; rfl, by rw [List.length_append, HKP.out.2.1]; rfl, fun x hx => by
       rcases List.mem_append.1 hx with hx | hx
       ·exact HKP.out.2.2 x hx
       ·simp only [List.mem_singleton] at hx; subst hx; exact ⟨HRR.out, hdt⟩⟩
      go_wp2_with fail
      go_roundw
      case rel => exact ⟨j + 1, a7, a15, n + 1, c7, c15, by go_num, by go_num, by go_num, by omega, by omega, by omega, HN9⟩
      case measure => simp [intOf]; omega
    ·skip
     go_simp; go_wp2_with fail; refine letterW (K := K) ?_; intro U14 hU14; obtain ⟨e14, he14⟩ : ∃ e14, e14 = V.heap.size := ⟨_, rfl⟩; have C14 : Hid (WcW w U14 la sa n n lc sc L B) := Lib.hid (by rw [hU14]; exact C0.out.quiet ((Step.refl [] _).alloc _)); have B14 : Hid (Rd U14 1 (some ⟨e14, 0, none⟩) 1 (bls [sy]) ∧ ∀ g, g ∈ blks la → g ≠ e14) := Lib.hid ⟨by rw [hU14, he14]; exact rd_blk' (xs := bls [sy]) (Blk.new _ _ _) 1 1 rfl, fun g hg e => by have := C0.out.rl.lt g hg; omega⟩; rw [← he14]; clear hU14 he14
     refine hK.out _ _ (Lib.hid ⟨_, C14.out.st⟩) (fun hHeld2 => ?_)
     clear hK K hHeld
     try simp only [Act.put, LsA, LsB, LsC, LsD, LsE, LsF]
     refine wpAnyH_ready (rs := [6]) (by kernel_rfl) (by simp) ?_
     refine AllReadyH.cons rfl (fun K hK => ?_) AllReadyH.nil
     go_simp; go_wp2_with fail; refine letterW (K := K) ?_; intro U6 hU6; obtain ⟨e6, he6⟩ : ∃ e6, e6 = U14.heap.size := ⟨_, rfl⟩; have C6 : Hid (WcW w U6 la sa n n lc sc L B) := Lib.hid (by rw [hU6]; exact C14.out.quiet ((Step.refl [] _).alloc _)); have B6 : Hid (Rd U6 5 (some ⟨e6, 0, none⟩) 1 (rcc r)) := Lib.hid (by rw [hU6, he6]; exact rd_blk' (xs := rcc r) (Blk.new _ _ _) 5 1 rfl); have B14x : Hid (Rd U6 1 (some ⟨e14, 0, none⟩) 1 (bls [sy]) ∧ ∀ g, g ∈ blks la → g ≠ e14) := Lib.hid ⟨by rw [hU6]; exact B14.out.1.step0 ((Step.refl [] _).alloc _), B14.out.2⟩; rw [← he6]; clear hU6 he6
     refine hK.out _ _ (Lib.hid ⟨_, C6.out.st⟩) (fun hHeld3 => ?_)
     clear hK K hHeld2
     try simp only [Act.put, LsA, LsB, LsC, LsD, LsE, LsF]
     refine wpAnyH_ready (rs := [7]) (by kernel_rfl) (by simp) ?_
     refine AllReadyH.cons rfl (fun K hK => ?_) AllReadyH.nil
     refine step_append_row rfl (.tmp 49) (.tmp 55) 32 32 rfl 45 i0 _ 5 48 Tryz.underlying32 HI.out.1 HI.out.2.1 HI.out.2.2.1 HI.out.2.2.2 rfl rfl C6.out.rl rfl (Src.rd 32 45 Tryz.underlying32 B6.out (rcc_ones r)) (by unfold maxLen; omega) (by omega) (by omega) ?_; intro a7 c7 u7 r7 k7; have C7 : Hid (WcW w u7 a7 sa (n + 1) n c7 sc (L ++ [r]) B) := Lib.hid (C6.out.growl (by rw [rcs_snoc]; exact r7) k7); have B14y : Hid (Rd u7 1 (some ⟨e14, 0, none⟩) 1 (bls [sy]) ∧ True) := Lib.hid ⟨B14x.out.1.step k7 (fun g hg hm => B14x.out.2 g hm (by simpa [blks] using hg)), trivial⟩; clear r7 k7
     refine hK.out _ _ (Lib.hid ⟨_, C7.out.st⟩) (fun hHeld4 => ?_)
     clear hK K hHeld3
     try simp only [Act.put, LsA, LsB, LsC, LsD, LsE, LsF]
     refine wpAnyH_ready (rs := [15]) (by kernel_rfl) (by simp) ?_
     refine AllReadyH.cons rfl (fun K hK => ?_) AllReadyH.nil
     refine step_append_row rfl (.tmp 57) (.tmp 63) 43 43 rfl 4 i1 _ 1 1 Tryz.underlying43 HI1.out.1 HI1.out.2.1 HI1.out.2.2.1 HI1.out.2.2.2 rfl rfl C7.out.rs rfl (Src.rd 43 4 Tryz.underlying43 B14y.out.1 (bls_one [sy])) (by unfold maxLen; omega) (by omega) (by omega) ?_; intro a15 c15 u15 r15 k15; have C15 : Hid (WcW w u15 a7 a15 (n + 1) (n + 1) c7 c15 (L ++ [r]) (B ++ [sy])) := Lib.hid (C7.out.grows (by rw [show bls (B ++ [sy]) = bls B ++ bls [sy] by simp [bls]]; exact r15) k15); clear r15 k15
     refine hK.out _ _ (Lib.hid ⟨_, C15.out.st⟩) (fun hHeld5 => ?_)
     clear hK K hHeld4
     try simp only [Act.put, LsA, LsB, LsC, LsD, LsE, LsF]
     refine wpAnyH_take (i := 16) (v := ?_) rfl (by kernel_rfl) (by kernel_rfl) (by kernel_rfl) (fun _ _ _ h => h) (Or.inl ⟨by rfl, ?_⟩) hHeld5 ?_
     rotate_left
     ·intro w hSw1
      try dsimp only at hSw1
      go_simp
      try (with_reducible rfl)
     try simp only [Act.put, LsA, LsB, LsC, LsD, LsE, LsF]
     refine wpAnyH_take (i := 17) (v := ?_) rfl (by kernel_rfl) (by kernel_rfl) (by kernel_rfl) (fun _ _ _ h => h) (Or.inl ⟨by rfl, ?_⟩) hHeld5 ?_
     rotate_left
     ·intro w hSw1
      try dsimp only at hSw1
      go_simp
      try (with_reducible rfl)
     try simp only [Act.put, LsA, LsB, LsC, LsD, LsE, LsF]
     refine wpAnyH_done (by kernel_rfl) ?_ _
     have HN9 : Hid (∃ L B, WcW w u15 a7 a15 (n + 1) (n + 1) c7 c15 L B ∧ KeptL (n + 1) L B) := Lib.hid ⟨L ++ [r], B ++ [sy], C15.out, by rw [List.length_append, HKP.out.1]; rfl, by rw [List.length_append, HKP.out.2.1]; rfl, fun x hx => by
      rcases List.mem_append.1 hx with hx | hx
      ·exact HKP.out.2.2 x hx
      ·simp only [List.mem_singleton] at hx; subst hx; exact ⟨HRR.out, hdt⟩⟩
     go_wp2_with fail
     go_roundw
     case rel => exact ⟨j + 1, a7, a15, n + 1, c7, c15, by go_num, by go_num, by go_num, by omega, by omega, by omega, HN9⟩
     case measure => simp [intOf]; omega
 case rest =>
  rename World => W3
  obtain ⟨la, sa, n, lc, sc, rfl, rfl, hn40, HW⟩ := hcut
  obtain ⟨L, B, hcw, hkp⟩ := HW.out
  have HC := Lib.hid (And.intro hcw hkp)
  clear hcw hkp HW H1
  go_wp2_with fail
  refine (wnew_ok 8388608 W3 (by decide)).mono ?_
  rintro e w4 ⟨S4, d, rfl, hd4, k4⟩
  have H4 : Hid (WcW w w4 la sa n n lc sc L B ∧ KeptL n L B ∧ Dk w4 S4 d (newS 8388608) ∧ Step [] S4 w w4 ∧ ∀ g, g ∈ blks la ++ blks sa → g ∉ S4) := Lib.hid ⟨HC.out.1.quiet k4, HC.out.2, hd4, ((HC.out.1.st.drop (S'' := []) (by simp)).trans k4), fun g hg hm => by
   have h5 : g < W3.heap.size := by
    rcases List.mem_append.1 hg with h | h
    ·exact HC.out.1.rl.lt g h
    ·exact HC.out.1.rs.lt g h
   exact k4.notin h5 (by simp) hm⟩
  clear hd4 k4 HC
  go_wp2_with fail
  have hop := wopen_any w4 S4 d (newS 8388608) 0 H4.out.2.2.1 (ok_new (by decide)) (by omega) (by intro e he; simp [newS] at he) w HT.out.1 H4.out.2.2.2.1
  rw [open_new] at hop
  refine hop.mono ?_
  intro e w5 hp
  obtain ⟨S5, b, a5, c5, rfl, hlw, _, k5, _, hb5⟩ := open_lw H4.out.2.2.2.1 hp rfl
  have hdis : ∀ g, g ∈ blks la ++ blks sa → g ∉ b :: S5 := fun g hg hm => by
   have h5 : g < w4.heap.size := by
    rcases List.mem_append.1 hg with h | h
    ·exact H4.out.1.rl.lt g h
    ·exact H4.out.1.rs.lt g h
   rcases List.mem_cons.1 hm with e | hm
   ·omega
   ·exact k5.notin h5 (H4.out.2.2.2.2 g hg) hm
  have HL : Hid (L.length = n ∧ B.length = n ∧ ∀ r ∈ L, rightRc r = true ∧ r.dt.length ≤ 1000) := Lib.hid H4.out.2.1
  have H5 : Hid (WcP w w5 la sa lc sc L B S5 d b ⟨0, 0, 0, false⟩ (newS 8388608)) := Lib.hid ⟨hlw, by rw [HL.out.1]; exact H4.out.1.rl.step k5 (fun g hg => H4.out.2.2.2.2 g (List.mem_append.2 (.inl hg))), by rw [HL.out.2.1]; exact H4.out.1.rs.step k5 (fun g hg => H4.out.2.2.2.2 g (List.mem_append.2 (.inr hg))), fun g hg => hdis g (List.mem_append.2 (.inl hg)), fun g hg => hdis g (List.mem_append.2 (.inr hg))⟩
  clear hlw k5 hb5 hdis hp hop H4
  simp only [List.length_nil]
  go_wp2_with fail
  refine (wstart_new 8388608 (by omega) w w5 S5 d b H5.out.lw HT.out.1 HT.out.2).mono ?_
  rintro e w6 ⟨rfl, S6, hm6⟩
  have H6 := Lib.hid (H5.out.next hm6)
  clear hm6 H5
  go_wp2_with fail
  refine (fuse_any (fz : Int) w6 S6 d _ H6.out.lw.dk).mono ?_
  rintro e w7 ⟨rfl, hd7, k7⟩
  have H7 : Hid (WcP w w7 la sa lc sc L B S6 d b ⟨((1 : Nat) : Int), ((1 : Nat) : Int), ((head0.length : Nat) : Int), false⟩ ⟨logE 1 [] head0 [], 8388608, (fz : Int), false⟩) := Lib.hid (by
   have h := H6.out.turn hd7 k7
   rwa [show fuseS ⟨logE 1 [] head0 [], 8388608, -1, false⟩ (fz : Int) = ⟨logE 1 [] head0 [], 8388608, (fz : Int), false⟩ by unfold fuseS; simp only; congr 1; omega] at h)
  clear hd7 k7 H6
  go_upto_block 2 with fail
  go_cut [15, 16] (fun su pu Wx => ∃ sure put : Nat, su = .int .i64 sure ∧ pu = .int .i64 put ∧ put ≤ n ∧ Hid (CrDone w Wx la sa lc sc L B d b put sure))
  case first =>
   go_wp2_with fail
   go_loopw [84, 15, 16] (fun i su pu Wx => ∃ (j sure : Nat), i = .int .i64 j ∧ su = .int .i64 sure ∧ pu = .int .i64 j ∧ j ≤ n ∧ Hid (∃ S z E fu Rs A C, WcP w Wx la sa lc sc L B S d b ⟨((1 : Nat) : Int), ((Rs.length + 1 : Nat) : Int), z, false⟩ ⟨E, 8388608, fu, false⟩ ∧ CrIs (L.take j) sure E Rs A C ∧ (0 ≤ z ∧ z ≤ head0.length + (framesB (L.take j)).length) ∧ fu ≤ 255 ∧ Ok6 ⟨E, 8388608, fu, false⟩ (j + 1))) (fun i _ _ _ => n - (intOf i).toNat)
   case atStart => exact ⟨0, 0, rfl, rfl, rfl, by omega, Lib.hid ⟨S6, _, _, _, [], [], [], H7.out, ⟨by simp [textsW, preW, framesB], by simp, by simp, by simp, by simp⟩, ⟨by omega, by simp [framesB]⟩, by omega, ok_logE (us := []) (by have := head0_len; simp [sumL]; omega) (by simp) (by omega) (by omega)⟩⟩
   case round =>
    rename World => Wr
    obtain ⟨j, sure, rfl, rfl, rfl, hjn, HW⟩ := hrel
    by_cases hlt : j < n
    case neg =>
     have hlt' : ¬ (j : Int) < (n : Int) := by omega
     go_wp2_with fail
     go_meet
     exact ⟨sure, j, rfl, rfl, hjn, Lib.hid (by
      obtain ⟨S, z, E, fu, Rs, A, C, h1, h2, h3, h4, h5⟩ := HW.out
      exact ⟨S, _, _, j, Rs, A, C, h1, h2, Nat.le_refl _, by have := HL.out.1; omega, ok_fit h5 (by omega)⟩)⟩
    have hlt' : (j : Int) < (n : Int) := by omega
    obtain ⟨S, z, E, fu, Rs, A, C, h1, h2, h3, h4, h5⟩ := HW.out
    have hz0 := h3.1
    have HP := Lib.hid (And.intro h1 (And.intro h2 (And.intro h3 (And.intro h4 h5))))
    obtain ⟨r, hx⟩ : ∃ r, L[j]? = some r := ⟨_, List.getElem?_eq_getElem (by rw [HL.out.1]; exact hlt)⟩
    obtain ⟨sy, hy⟩ : ∃ sy, B[j]? = some sy := ⟨_, List.getElem?_eq_getElem (by rw [HL.out.2.1]; exact hlt)⟩
    have hrr := HL.out.2.2 r (List.mem_of_getElem? hx)
    have HT1 : Hid (L.take (j + 1) = L.take j ++ [r]) := Lib.hid (by rw [List.take_add_one, hx]; rfl)
    have HRR := Lib.hid hrr
    have hrd := h1.rl.rd
    rw [HL.out.1] at hrd
    obtain ⟨g, off, hla⟩ := hrd.some_ (by omega)
    rw [hla] at hrd
    have HLA := Lib.hid hla
    obtain ⟨z0, z1, z2, z3, z4⟩ := rd_rc hrd hx
    have gl : g < Wr.heap.size := by have := World.block_lt_of_cell? _ _ z0; simpa using this
    have HBY := Lib.hid hy
    have hfew := fr_few (l := L.take (j + 1)) (fun r hr => HL.out.2.2 r (List.mem_of_mem_take hr)) (by rw [List.length_take]; omega)
    have HFW := Lib.hid hfew
    have HCA := Lib.hid (cr_append h2 h3 h4 hrr.1 (by rw [List.length_take]; omega) (by rw [← HT1.out]; omega))
    have hzl : z ≤ 1000000000 := by
     have h6 := fr_few (l := L.take j) (fun r hr => HL.out.2.2 r (List.mem_of_mem_take hr)) (by rw [List.length_take]; omega)
     have := h3.2
     omega
    subst hla
    clear h1 h2 h3 h4 h5 hx hy hrr hrd HW hfew
    obtain ⟨nb, hnb⟩ : ∃ nb, nb = Wr.heap.size := ⟨_, rfl⟩
    obtain ⟨U, hU⟩ : ∃ U, U = Wr.alloc (.cells #[.int .i64 r.k, .int .i64 r.i, .int .i64 r.t, .int .i64 r.v, Str r.dt] 45) := ⟨_, rfl⟩
    have HQ : Hid (WcP w U (some ⟨g, off, none⟩) sa lc sc L B S d b ⟨((1 : Nat) : Int), ((Rs.length + 1 : Nat) : Int), z, false⟩ ⟨E, 8388608, fu, false⟩ ∧ Rd U 5 (some ⟨nb, 0, none⟩) 1 (rcs [r])) := by
     subst hU hnb
     exact ⟨HP.out.1.quiet ((Step.refl [] Wr).alloc _), rd_blk' (xs := rcs [r]) (Blk.new Wr _ _) 5 1 rfl⟩
    have HNB := Lib.hid hnb
    have HU := Lib.hid hU
    clear hnb hU
    go_wp2_with fail
    clear z0 z1 z2 z3 z4
    have hLb : Rs.length + 1 ≤ 999999999999 := by have h6 := HP.out.2.1.len; rw [List.length_take] at h6; omega
    have ha := wappend_any U S d b 1 (Rs.length + 1) z false ⟨E, 8388608, fu, false⟩ (j + 1) HQ.out.1.lw.dk HQ.out.1.lw.wl HQ.out.1.lw.nb HP.out.2.2.2.2 (by omega) hLb w HT.out.1 HT.out.2 HQ.out.1.lw.st ⟨hz0, hzl⟩ [r] (some ⟨nb, 0, none⟩) 1 HQ.out.2 trivial ⟨by simp, by intro x hx; simp only [List.mem_singleton] at hx; subst hx; have := HRR.out.2; omega⟩
    have HOA := Lib.hid (okw_append (w := ⟨((1 : Nat) : Int), ((Rs.length + 1 : Nat) : Int), z, false⟩) (l := [r]) HP.out.2.2.2.2 HQ.out.1.lw.dk.ris (by omega))
    obtain ⟨q, hq⟩ : ∃ q, q = appendW ⟨((1 : Nat) : Int), ((Rs.length + 1 : Nat) : Int), z, false⟩ [r] ⟨E, 8388608, fu, false⟩ := ⟨_, rfl⟩
    have HCQ : Hid (CrApp (L.take j) sure r q) := Lib.hid (by rw [hq]; exact HCA.out)
    rw [← hq] at ha HOA
    rw [HNB.out, HU.out] at ha
    clear hq HCA
    refine ha.mono ?_
    rintro e w9 ⟨rfl, S9, hm9⟩
    rw [← HU.out] at hm9
    have H9 := Lib.hid (HQ.out.1.next hm9)
    clear hm9 ha HQ HNB HU HP
    obtain ⟨er, her⟩ : ∃ er, er = q.1 := ⟨_, rfl⟩
    have HER := Lib.hid her
    rw [← her]
    clear her
    by_cases he : er = 0
    case neg =>
     have qe : (er != 0) = true := by simpa using he
     have HD : Hid (CrDone w w9 (some ⟨g, off, none⟩) sa lc sc L B d b (j + 1) sure) := Lib.hid (by
      rcases HCQ.out with ⟨h0, _⟩ | ⟨_, Rs', A', B', hc, _⟩
      ·exact absurd (HER.out.trans h0) he
      ·exact ⟨S9, _, _, j, Rs', A', B', H9.out, hc, by omega, by have := HL.out.1; omega, ok_fit HOA.out (by omega)⟩)
     clear he
     go_wp2_with fail
     go_meet
     exact ⟨sure, j + 1, rfl, by go_num, by omega, HD⟩
    have qe : (er != 0) = false := by simpa using he
    have HG : Hid (∃ fu Rs A C z E, q.2.1 = ⟨((1 : Nat) : Int), ((Rs.length + 1 : Nat) : Int), z, false⟩ ∧ q.2.2 = ⟨E, 8388608, fu, false⟩ ∧ CrIs (L.take (j + 1)) sure E Rs A C ∧ (0 ≤ z ∧ z ≤ head0.length + (framesB (L.take (j + 1))).length) ∧ fu ≤ 255) := Lib.hid (by
     rcases HCQ.out with ⟨_, fu', Rs', A', B', z', e1, e2, e3, e4, e5, e6⟩ | ⟨h0, _⟩
     ·exact ⟨fu', Rs', A', B', z', q.2.2.E, e1, e4, by rw [HT1.out]; exact e5, by rw [HT1.out]; exact ⟨e2, e3⟩, e6⟩
     ·exact absurd (HER.out.symm.trans he) h0)
    obtain ⟨fu', Rs', A', C', z', E', e1, e2, e3, e4, e5⟩ := HG.out
    have hz0' := e4.1
    have HK : Hid (WcP w w9 (some ⟨g, off, none⟩) sa lc sc L B S9 d b ⟨((1 : Nat) : Int), ((Rs'.length + 1 : Nat) : Int), z', false⟩ ⟨E', 8388608, fu', false⟩ ∧ CrIs (L.take (j + 1)) sure E' Rs' A' C' ∧ (0 ≤ z' ∧ z' ≤ head0.length + (framesB (L.take (j + 1))).length) ∧ fu' ≤ 255 ∧ Ok6 ⟨E', 8388608, fu', false⟩ (j + 1 + 1)) := Lib.hid ⟨by have h := H9.out; rwa [e1, e2] at h, e3, e4, e5, by have h := HOA.out; rwa [e2] at h⟩
    clear e1 e2 e3 e4 e5 HG HCQ H9 HOA HER he
    have hrd := HK.out.1.rs.rd
    rw [HL.out.2.1] at hrd
    obtain ⟨g2, off2, hsa⟩ := hrd.some_ (by omega)
    have y0 : w9.cell? ⟨g2, off2 + j, none⟩ = some (.bool sy) := hrd.cell g2 off2 none hsa j _ (by unfold bls; rw [List.getElem?_map, HBY.out]; rfl)
    have gl2 : g2 < w9.heap.size := by have := World.block_lt_of_cell? _ _ y0; simpa using this
    subst hsa
    clear hrd
    cases sy with
    | false =>
     go_wp2_with fail
     go_roundw
     case rel => exact ⟨j + 1, sure, by go_num, rfl, by go_num, by omega, Lib.hid ⟨S9, z', E', fu', Rs', A', C', HK.out⟩⟩
     case measure => simp [intOf]; omega
    | true =>
     have hLb2 : Rs'.length + 1 ≤ 999999999999 := by have h6 := HK.out.2.1.len; rw [List.length_take] at h6; omega
     go_wp2_with fail
     have hs := wsync_any w9 S9 d b 1 (Rs'.length + 1) z' false ⟨E', 8388608, fu', false⟩ (j + 1 + 1) HK.out.1.lw.dk HK.out.1.lw.wl HK.out.1.lw.nb HK.out.2.2.2.2 (by omega) hLb2 w HT.out.1 HT.out.2 HK.out.1.lw.st
     have HOS := Lib.hid (okw_sync (w := ⟨((1 : Nat) : Int), ((Rs'.length + 1 : Nat) : Int), z', false⟩) HK.out.2.2.2.2)
     have HCS := Lib.hid (cr_sync (z := z') HK.out.2.1 HK.out.2.2.2.1 (by rw [List.length_take]; omega))
     obtain ⟨q2, hq⟩ : ∃ q, q = syncW ⟨((1 : Nat) : Int), ((Rs'.length + 1 : Nat) : Int), z', false⟩ ⟨E', 8388608, fu', false⟩ := ⟨_, rfl⟩
     have HCQ : Hid (CrSyn (L.take (j + 1)) sure z' q2) := Lib.hid (by rw [hq]; exact HCS.out)
     rw [← hq] at hs HOS
     clear hq HCS
     refine hs.mono ?_
     rintro e w10 ⟨rfl, S10, hm10⟩
     have H10 := Lib.hid (HK.out.1.next hm10)
     have HZ4 := Lib.hid HK.out.2.2.1
     clear hm10 hs HK
     obtain ⟨er2, her⟩ : ∃ er, er = q2.1 := ⟨_, rfl⟩
     have HER := Lib.hid her
     rw [← her]
     clear her y0
     by_cases he : er2 = 0
     case neg =>
      have qe2 : (er2 != 0) = true := by simpa using he
      have HD : Hid (CrDone w w10 (some ⟨g, off, none⟩) (some ⟨g2, off2, none⟩) lc sc L B d b (j + 1) sure) := Lib.hid (by
       rcases HCQ.out with ⟨h0, _⟩ | ⟨_, Rs', A', B', hc, _⟩
       ·exact absurd (HER.out.trans h0) he
       ·exact ⟨S10, _, _, j + 1, Rs', A', B', H10.out, hc, Nat.le_refl _, by have := HL.out.1; omega, ok_fit HOS.out (by omega)⟩)
      clear he
      go_wp2_with fail
      go_meet
      exact ⟨sure, j + 1, rfl, by go_num, by omega, HD⟩
     have qe2 : (er2 != 0) = false := by simpa using he
     have HG : Hid (∃ S z E fu Rs A C, WcP w w10 (some ⟨g, off, none⟩) (some ⟨g2, off2, none⟩) lc sc L B S d b ⟨((1 : Nat) : Int), ((Rs.length + 1 : Nat) : Int), z, false⟩ ⟨E, 8388608, fu, false⟩ ∧ CrIs (L.take (j + 1)) (j + 1) E Rs A C ∧ (0 ≤ z ∧ z ≤ head0.length + (framesB (L.take (j + 1))).length) ∧ fu ≤ 255 ∧ Ok6 ⟨E, 8388608, fu, false⟩ (j + 1 + 1)) := Lib.hid (by
      rcases HCQ.out with ⟨_, fu', Rs', A', B', e1, e4, e5, e6⟩ | ⟨h0, _⟩
      ·have h := H10.out
       have ho := HOS.out
       rw [e4] at h ho
       rw [e1] at h
       refine ⟨S10, z', q2.2.2.E, fu', Rs', A', B', h, ?_, HZ4.out, e6, ho⟩
       have hlen : (L.take (j + 1)).length = j + 1 := by rw [List.length_take, HL.out.1]; omega
       rwa [hlen] at e5
      ·exact absurd (HER.out.symm.trans he) h0)
     clear he HCQ H10 HOS HZ4 HER
     go_wp2_with fail
     go_roundw
     case rel => exact ⟨j + 1, j + 1, by go_num, by go_num, by go_num, by omega, HG⟩
     case measure => simp [intOf]; omega
  case rest =>
   rename World => W8
   obtain ⟨sure, put, rfl, rfl, hput, HW⟩ := hcut
   obtain ⟨S, x, s, m, Rs, A, C, h1, h2, h3, h4, h5⟩ := HW.out
   have hll := HL.out.1
   have h6 := cr_end h2 (by rw [List.length_take]; omega) keep
   have HP := Lib.hid (And.intro h1 (And.intro h5 (And.intro (cr_nm h2 (by rw [List.length_take]; omega) keep) (And.intro h3 h4))))
   obtain ⟨q, hq⟩ : ∃ q, q = openS (crashS s keep) := ⟨_, rfl⟩
   have HQE := Lib.hid hq
   rw [← hq] at h6
   have HEND := Lib.hid h6
   clear h1 h2 h3 h4 h5 h6 hq HW H7
   go_wp2_with fail
   refine (crash_any keep W8 S d s ka kc HP.out.1.lw.dk HP.out.2.1.b (HR.out.2.2.1.step0 HP.out.1.lw.st) (fun hpos g hg hm => by
    obtain ⟨gk, ok, e⟩ := HR.out.2.2.1.some_ hpos
    have hlt : gk < w.heap.size := by
     have hc := HR.out.2.2.1.cell gk ok none e 0 _ (List.getElem?_eq_getElem (by simpa using hpos))
     have := World.block_lt_of_cell? _ _ hc
     simpa using this
    rw [e] at hg
    simp [blks] at hg
    subst hg
    rcases HP.out.1.lw.disk.fresh g hm with h | h
    ·simp at h
    ·omega) ⟨HR.out.2.2.2, HP.out.2.1.nm⟩).mono ?_
   rintro e w9 ⟨rfl, hd9, k9⟩
   have H9 := Lib.hid (HP.out.1.turn hd9 k9)
   clear hd9 k9
   go_wp2_with fail
   have hop := wopen_any w9 S d (crashS s keep) 60 H9.out.lw.dk (ok_crash HP.out.2.1 keep) (by omega) HP.out.2.2.1 w HT.out.1 H9.out.lw.disk
   rw [← HQE.out] at hop
   refine hop.mono ?_
   intro e w10 hp
   obtain ⟨S10, b10, a10, c10, rfl, hlw, hrow, k10, hna, _⟩ := open_lw H9.out.lw.disk hp HEND.out.1
   obtain ⟨i, hi1, hi2, hi3⟩ := HEND.out.2
   have H10 : Hid (Step [] [] w w10 ∧ Row w10 5 a10 q.2.2.1.length c10 (rcs q.2.2.1) ∧ Row w10 5 la n lc (rcs L)) := Lib.hid ⟨hlw.st.drop (by simp), hrow, by have h := H9.out.rl; rw [HL.out.1] at h; exact h.step k10 (fun g hg hm => H9.out.nl g hg (by simp [hm]))⟩
   rw [hi3] at H10
   rw [hi3]
   have hil : ((L.take m).take i).length = i := by
    rw [List.length_take]
    omega
   have him : i ≤ m := Nat.le_trans hi2 (by rw [List.length_take]; omega)
   have hlc : n ≤ lc := H10.out.2.2.le
   have HX : Hid ((L.take m).take i = (L.take put).take i ∧ ((L.take m).take i).length = i ∧ (L.take put).length = put) := Lib.hid ⟨by rw [List.take_take, List.take_take]; congr 1; have := HP.out.2.2.2.1; omega, hil, by rw [List.length_take]; omega⟩
   have hip : i ≤ put := by have := HP.out.2.2.2.1; omega
   rw [hil]
   clear hlw hrow k10 hna hp hop hi2 hi3 hil
   go_wp2_with fail
   have hbg := law07begins_any ((L.take m).take i) (L.take put) a10 la c10 lc sure w10 H10.out.2.1.rd (by
    have h := H10.out.2.2.rd.take put hput
    rw [rcs_take]
    rwa [HX.out.2.2]) (by rw [HX.out.2.1]; omega) (by rw [HX.out.2.1]; exact hi1) (by rw [HX.out.2.1, HX.out.2.2]; exact hip) (by rw [HX.out.2.2]; omega) (by rw [HX.out.2.1]; exact HX.out.1)
   rw [HX.out.2.1, HX.out.2.2] at hbg
   refine hbg.mono ?_
   rintro e w11 ⟨rfl, k11⟩
   have H11 := Lib.hid (H10.out.1.trans k11)
   clear k11 hbg
   go_wp2_with fail
   exact bodyPost_ret (results_tmp rfl _ _ _) rfl ⟨rfl, H11.out⟩
theorem WalCrash_walk (v0 v1 v2 : Value) (w : World) {b0 : Nat} (h0 : Value.okWide Tryz.prog w .any b0 41 v0) (o0 : Op Tryz.prog w 41 v0.cells.toList) (h1 : Value.okWide Tryz.prog w .any b0 5 v1) (o1 : Op Tryz.prog w 5 v1.cells.toList) (h2 : Value.okWide Tryz.prog w .any b0 42 v2) (o2 : Op Tryz.prog w 42 v2.cells.toList) (hT : LTabs w) :
  Calls Tryz.prog 5 #[v0, v1, v2] w fun e w' => e = .returned (.bool true) ∧ Below w.heap.size w w' := by
 obtain ⟨ps, pa, pc, rfl, hr, hb, hl⟩ := op_pvs h0 o0
 obtain ⟨y, rfl⟩ := okWide_int Tryz.underlying5 h1
 obtain ⟨y', e, hw⟩ := o1.int Tryz.underlying5
 simp [Value.cells] at e
 subst e
 simp [Lit.wf, IntKind.min, IntKind.max, IntKind.signed, IntKind.bits] at hw
 obtain ⟨n, rfl⟩ : ∃ n : Nat, y = n := ⟨y.toNat, by omega⟩
 obtain ⟨keep, ka, kc, rfl, hkr, hkl⟩ := op_ints' h2 o2
 exact (crash07_any ps n keep pa ka pc kc w hT.pow hT.u8 hr hb hl (by omega) hkr hkl).mono fun e w' ⟨h1, h2⟩ => ⟨h1, h2.below0⟩

set_option maxRecDepth 100000 in
theorem WalCrash_lifted (os : Os) (started : os.Started) (H : Type) (enc : TypeId × Value → H) :
  ReturnsInHanded {} Tryz.checked os 5 .any (fun w args => (Rows.walCrashSpec.pre enc Tryz.prog Tryz.f5 [] false w args ∧ laidMetH Tryz.prog scrLaid w) ∧ sizedMet enc Tryz.prog Tryz.f5 (OpenSpec.ofChange Rows.walCrashSpec) false w args)
   (Rows.walCrashSpec.post enc Tryz.prog Tryz.f5 false true false false) := by
 refine returnsInHanded_of_change_tabs (C := Tryz.checked) (X := fun w _ => laidMetH Tryz.prog scrLaid w) (fun _ _ _ hh h => h.of_heap hh) (by kernel_rfl) started (by kernel_rfl) Tryz.func5
  (ChangeSpec.witness_shaped (enc := enc) (C := Tryz.checked) (os := os) (X := fun w _ => laidMetH Tryz.prog scrLaid w) false (World.laidAll Tryz.prog os scrLaid) #[.slice none 0 0, .int .u8 0, .slice none 0 0] 8 (World.laidAll_os _ _ _)
   (World.shaped_of_ZipB (by kernel_rfl) (by kernel_rfl)) (by kernel_rfl) (by kernel_rfl) (by kernel_rfl)
   (by rw [MakeChecks.laidMetH_plain _ _ _ (by kernel_rfl)]; exact laidMet_laidAll _ (by kernel_rfl) (by kernel_rfl))) ?_
 intro W base args ds gs before hval0 hW _ hsz0 hL hS _
 have hval : ∀ (j : Nat) t v, Tryz.f5.params[j]? = some t → args[j]? = some v → Value.okWide Tryz.prog W .any base t v := hval0
 have hsz : (DataW.weightsEach Tryz.prog (Tryz.f5.params.toList ++ Rows.walCrashSpec.plain.varTypes Tryz.prog) (ds ++ gs)).all (· ≤ reachBytes) = true := hsz0
 have hW' := hW
 have hT := stabs_of hL hS
 obtain ⟨p, q, hA0, hV, rfl, _, _⟩ := hW
 have hA : DataW.TrodAll enc Tryz.prog W 0 (fun _ => true) true Tryz.f5.params.toList args.toList ds p := hA0
 rw [Tryz.params5] at hA hval hsz
 obtain ⟨v0, vs0, d0, ds0, p0, q0, hargs, rfl, rfl, h0, r0⟩ := trodAll_cons hA
 obtain ⟨v1, vs1, d1, ds1, p1, q1, rfl, rfl, rfl, h1, r1⟩ := trodAll_cons r0
 obtain ⟨v2, vs2, d2, ds2, p2, q2, rfl, rfl, rfl, h2, r2⟩ := trodAll_cons r1
 obtain ⟨rfl, rfl, rfl⟩ := trodAll_nil r2
 obtain rfl : args = #[v0, v1, v2] := by cases args; simp_all
 obtain ⟨rfl, rfl⟩ := trodVars_none hV
 have lt0 : ∀ x ∈ p0, x.block < W.heap.size := by obtain ⟨m, hm⟩ := h0; exact DataW.trod_lt m _ _ _ hm
 have o0 := op_of hsz (j := 0) rfl rfl h0
 have lt1 : ∀ x ∈ p1, x.block < W.heap.size := by obtain ⟨m, hm⟩ := h1; exact DataW.trod_lt m _ _ _ hm
 have o1 := op_of hsz (j := 1) rfl rfl h1
 have lt2 : ∀ x ∈ p2, x.block < W.heap.size := by obtain ⟨m, hm⟩ := h2; exact DataW.trod_lt m _ _ _ hm
 have o2 := op_of hsz (j := 2) rfl rfl h2
 refine (WalCrash_walk v0 v1 v2 W (hval 0 _ v0 rfl rfl) o0 (hval 1 _ v1 rfl rfl) o1 (hval 2 _ v2 rfl rfl) o2 hT).mono fun e W' ⟨he, bel⟩ => ?_
 subst he
 exact ⟨_, rfl, _, _, _, [], _, [], hW', trodAll_mk1 (shut_bool Tryz.underlying4 _), (trodAll_cons_mk (Below.trod (by kernel_rfl) (by kernel_rfl) (of_decide_eq_true (by kernel_rfl)) h0 bel lt0) (trodAll_cons_mk (Below.trod (by kernel_rfl) (by kernel_rfl) (of_decide_eq_true (by kernel_rfl)) h1 bel lt1) (trodAll_cons_mk (Below.trod (by kernel_rfl) (by kernel_rfl) (of_decide_eq_true (by kernel_rfl)) h2 bel lt2) trodAll_mk0))), rfl, bel.frame _, fun h => by cases h⟩

/-- The row's statement. -/
theorem WalCrash_row : Rows.WalCrashSaid :=
 OpenClaim.holds_of_wide 5 Tryz.f5 rfl rfl rfl rfl rfl rfl rfl ⟨rfl, rfl, rfl, rfl, rfl⟩ rfl rfl rfl rfl rfl (by kernel_rfl) Tryz.func5 (by kernel_rfl)
  (of_decide_eq_true (by kernel_rfl)) (by unfold Func.isWrapper; rw [if_neg (of_decide_eq_false (by kernel_rfl))]; exact ⟨rfl, rfl⟩)
  (fun os started H enc _ => WalCrash_lifted os started H enc)
/-- The card. -/
theorem WalCrash_holds : Rows.WalCrashCardSaid :=
 Claim7.holds_tied_plain_at .later [] [.data, .data, .data, .data, .sentinel, .sentinel, .pinned] true Rows.walCrashCard.stood.harness true
  WalCrash_row (fun _ h => by cases h) (by kernel_rfl) (fun _ h => by cases h) walCrash_row_tie rfl ⟨rfl, rfl⟩ (by kernel_rfl) rfl
  (fun f fn hf hfn => by
   obtain rfl : f = 5 := Option.some.inj ((show Tryz.prog.funcNamed "exchequer/exchequerlaw07.WalCrash" = some 5 by kernel_rfl).symm.trans hf) |>.symm
   obtain rfl : fn = Tryz.f5 := (Option.some.inj (Tryz.func5.symm.trans hfn)).symm
   exact ⟨by kernel_rfl, fun j t ht => by
    rw [Tryz.params5] at ht
    have hm : t ∈ [41, 5, 42] := by simpa using Array.mem_of_getElem? ht
    have hall : ([41, 5, 42].all fun u => !Tryz.prog.wantsStandIn u) = true := by kernel_rfl
    exact (show Tryz.prog.wantsStandIn t = false by simpa using List.all_eq_true.1 hall t hm)⟩)
  (by kernel_rfl)
#print axioms WalCrash_holds
end Go.Proofs.YtnkbphecabnnaaaGreatDoor
