/-
 WalAny: whatever stands in the segments, a log is opened, its records are right, and opened again it tells the same. The row lists the library's variables as Go lays them. No condition beyond the row's.
-/
import Derived.Test.YtnkbphecabnnaaaGreatDoorZGS
import Derived.Test.YtnkbphecabnnaaaGreatDoorZGW
namespace Go.Proofs.YtnkbphecabnnaaaGreatDoor
open Go.RowKit Go.Lib Go.ChangeShapes Go.WideShapes Go.ChangeAt Go.Maps
set_option linter.unusedSimpArgs false
set_option linter.unusedVariables false
set_option maxRecDepth 100000

def u8s (l : List Nat) : List Value := l.map fun n : Nat => Value.int .u8 (n : Int)
theorem op_u8s {w : World} {v : Value} {b0 : Nat} (h1 : Value.okWide Tryz.prog w .any b0 22 v) (o1 : Op Tryz.prog w 22 v.cells.toList) : ∃ (l : List Nat) (a : Option Addr) (cap : Nat), v = .slice a l.length cap ∧ Rd w 1 a l.length (u8s l) ∧ (∀ n ∈ l, n < 256) ∧ l.length ≤ 9223372036854775807 := by
 obtain ⟨a, n, cap, rfl⟩ := okWide_slice Tryz.underlying22 h1
 obtain ⟨a2, n2, cap2, e, h1, h2, h3, h4⟩ := o1.slice Tryz.underlying22 (sz := 1) (by kernel_rfl)
 simp [Value.cells] at e
 obtain ⟨rfl, rfl, rfl⟩ := e
 obtain ⟨l, hl, hr, hq⟩ := rd_of (w := w) (fun x : Nat => [Value.int .u8 (x : Int)]) 1 (by omega) (fun _ => rfl) (a := a) (n := n) (fun x => x < 256) (fun i hi => by
  obtain ⟨cs', hlen, ⟨ad, hx, hc⟩, hop⟩ := h4 i hi
  obtain ⟨x, e2, hw⟩ := hop.int Tryz.underlying5
  subst e2
  simp [Lit.wf, IntKind.min, IntKind.max, IntKind.signed, IntKind.bits] at hw
  obtain ⟨m, rfl⟩ : ∃ m : Nat, x = m := ⟨x.toNat, by omega⟩
  exact ⟨m, ⟨ad, hx, hc⟩, by omega⟩)
 subst hl
 have hm : ∀ l : List Nat, (l.flatMap fun x : Nat => [Value.int .u8 (x : Int)]) = u8s l := by
  intro l
  induction l with
  | nil => rfl
  | cons x r ih => rw [List.flatMap_cons, ih]; rfl
 rw [hm] at hr
 exact ⟨l, _, _, rfl, hr, hq, by unfold maxLen at h2; omega⟩
theorem op_txts {w : World} {v : Value} {b0 : Nat} (h1 : Value.okWide Tryz.prog w .any b0 23 v) (o1 : Op Tryz.prog w 23 v.cells.toList) : ∃ (l : List (List UInt8)) (a : Option Addr) (cap : Nat), v = .slice a l.length cap ∧ Rd w 1 a l.length (l.map fun x => Str x) ∧ (∀ x ∈ l, x.length ≤ 140737488351232) ∧ l.length ≤ 9223372036854775807 := by
 obtain ⟨a9, n9, c9, rfl⟩ := okWide_slice Tryz.underlying23 h1
 obtain ⟨l, a, cap2, e2, g1, g2, g3, g4⟩ := op_strs o1
 simp [Value.cells] at e2
 obtain ⟨rfl, e3, rfl⟩ := e2
 subst e3
 exact ⟨l, _, _, rfl, g3, g4, by unfold maxLen at g2; omega⟩
def AnyR (w : World) (d j : Nat) (W : World) : Prop := ∃ S s, Dk W S d s ∧ Step [] S w W ∧ Stl s 8388608 ∧ usedE s.E ≤ 5000 * j ∧ Ok6 s j
theorem row_len {w : World} {a : Option Addr} {n cap : Nat} {xs : List Value} (h : Row w 5 a n cap xs) : n ≤ 9223372036854775807 := by
 have h1 := h.le
 have h2 := h.max
 unfold maxLen at h2
 omega
set_option maxHeartbeats 8000000 in
theorem any07_any (bs : List Nat) (ts : List (List UInt8)) (a1 a2 : Option Addr) (c1 c2 : Nat) (w : World) (hT : PTab w) (hU : Tabs w) (hr1 : Rd w 1 a1 bs.length (u8s bs)) (hr2 : Rd w 1 a2 ts.length (ts.map fun x => Str x)) (hb1 : ∀ n ∈ bs, n < 256) (hb2 : ∀ x ∈ ts, x.length ≤ 140737488351232) (hl1 : bs.length ≤ 9223372036854775807) (hl2 : ts.length ≤ 9223372036854775807) :
  Calls Tryz.prog 3 #[.slice a1 bs.length c1, .slice a2 ts.length c2] w fun e w' => e = .returned (.bool true) ∧ Step [] [] w w' := by
 have HT := Lib.hid (And.intro hT hU)
 have HR := Lib.hid (And.intro hr1 (And.intro hr2 (And.intro hb1 hb2)))
 clear hT hU hr1 hr2 hb1 hb2
 obtain ⟨N, hN⟩ : ∃ N, N = bs.length := ⟨_, rfl⟩
 obtain ⟨M, hM⟩ : ∃ M, M = ts.length := ⟨_, rfl⟩
 have HN := Lib.hid (And.intro hN hM)
 rw [← hN] at hl1 ⊢
 rw [← hM] at hl2 ⊢
 clear hN hM
 go_enter Tryz.func3, Tryz.ntmps3
 go_wp2_with fail
 refine (awake07_true w HT.out.1 HT.out.2).mono ?_
 rintro e w1 ⟨rfl, k1⟩
 have H1 := Lib.hid k1
 clear k1
 go_wp2_with fail
 refine (wnew_ok 8388608 w1 (by decide)).mono ?_
 rintro e w2 ⟨S1, d, rfl, hd1, st1⟩
 have H2 : Hid (AnyR w d 0 w2) := Lib.hid ⟨S1, newS 8388608, hd1, H1.out.trans st1, ⟨rfl, rfl, rfl, by simp [newS, ERis], by intro e he; simp [newS] at he⟩, by simp [newS, usedE], ok_new (by decide)⟩
 clear hd1 st1 H1
 go_upto_block 0 with fail
 go_cut [] (fun Wx => Hid (∃ j, j ≤ 8 ∧ AnyR w d j Wx))
 case first =>
  go_wp2_with fail
  go_loopw [7] (fun i Wx => ∃ j : Nat, i = .int .i64 j ∧ j ≤ 8 ∧ j ≤ N ∧ j ≤ M ∧ Hid (AnyR w d j Wx)) (fun i _ => 8 - (intOf i).toNat)
  case atStart => exact ⟨0, rfl, by omega, by omega, by omega, H2⟩
  case round =>
   rename World => Wr
   obtain ⟨j, rfl, hj8, hjN, hjM, HW⟩ := hrel
   by_cases h1 : j < N
   case neg =>
    have h1' : ¬ (j : Int) < (N : Int) := by omega
    go_wp2_with fail
    go_meet
    exact Lib.hid ⟨j, hj8, HW.out⟩
   have h1' : (j : Int) < (N : Int) := by omega
   by_cases h2 : j < M
   case neg =>
    have h2' : ¬ (j : Int) < (M : Int) := by omega
    go_wp2_with fail
    go_meet
    exact Lib.hid ⟨j, hj8, HW.out⟩
   have h2' : (j : Int) < (M : Int) := by omega
   by_cases h3 : j < 8
   case neg =>
    have h3' : ¬ (j : Int) < 8 := by omega
    go_wp2_with fail
    go_meet
    exact Lib.hid ⟨j, hj8, HW.out⟩
   have h3' : (j : Int) < 8 := by omega
   obtain ⟨S, s, hd, hst, hs, hu, hO⟩ := HW.out
   have HS := Lib.hid (And.intro hd (And.intro hst (And.intro hs (And.intro hu hO))))
   clear hd hst hs hu hO
   obtain ⟨c, hc⟩ : ∃ c, bs[j]? = some c := ⟨_, List.getElem?_eq_getElem (by rw [← HN.out.1]; exact h1)⟩
   obtain ⟨t, ht⟩ : ∃ t, ts[j]? = some t := ⟨_, List.getElem?_eq_getElem (by rw [← HN.out.2]; exact h2)⟩
   have hc256 := HR.out.2.2.1 c (List.mem_of_getElem? hc)
   have htl := HR.out.2.2.2 t (List.mem_of_getElem? ht)
   have hr1 := HR.out.1
   have hr2 := HR.out.2.1
   rw [← HN.out.1] at hr1
   rw [← HN.out.2] at hr2
   obtain ⟨g, off, rfl⟩ := hr1.some_ (by omega)
   obtain ⟨g2, off2, rfl⟩ := hr2.some_ (by omega)
   have z0 : w.cell? ⟨g, off + j, none⟩ = some (.int .u8 (c : Int)) := hr1.cell g off none rfl j _ (by unfold u8s; rw [List.getElem?_map, hc]; rfl)
   have y0 : w.cell? ⟨g2, off2 + j, none⟩ = some (Str t) := hr2.cell g2 off2 none rfl j _ (by rw [List.getElem?_map, ht]; rfl)
   have HZ := Lib.hid (And.intro z0 y0)
   have y1 := HS.out.2.1.cell y0 (by simp)
   clear hr1 hr2 hc ht z0 y0
   have hj0 : (0 : Int) ≤ (j : Int) := by omega
   by_cases hbig : 5000 < t.length
   ·have hbd : (5000 : Int) < (t.length : Int) := by omega
    go_wp2_with fail
    exact bodyPost_ret (results_tmp rfl _ _ _) rfl ⟨rfl, HS.out.2.1.drop (by simp)⟩
   have hbd : ¬ (5000 : Int) < (t.length : Int) := by omega
   go_upto_region 9 with fail
   clear y1
   obtain ⟨V, hV⟩ : ∃ V, V = Wr.drew := ⟨_, rfl⟩
   have HV : Hid (Dk V S d s ∧ Step [] S w V) := Lib.hid (by rw [hV]; exact ⟨HS.out.1.keep ((Step.refl [] Wr).drew), HS.out.2.1.drew⟩)
   have hm9 : (c : Int) % 9 = ((c % 9 : Nat) : Int) := by omega
   have hm9' : (c : Int).tmod 9 = ((c % 9 : Nat) : Int) := by rw [Int.ofNat_tmod]; rfl
   obtain ⟨m, hm⟩ : ∃ m, m = c % 9 := ⟨_, rfl⟩
   have hml : m ≤ 999999999999 := by omega
   rw [← hm] at hm9 hm9'
   clear hm
   have hcw : IntKind.i64.wrap (c : Int) = (c : Int) := IntWalk.i64_in _ (by omega)
   have HAP : Hid (∃ s', appendS s (fileW m) t = (0, s') ∧ Stl s' 8388608 ∧ usedE s'.E ≤ 5000 * (j + 1) ∧ Ok6 s' (j + 1)) := Lib.hid (by
    obtain ⟨s', e1, e2, e3, _⟩ := append_w HS.out.2.2.1 t hml (by have := HS.out.2.2.2.1; omega)
    have h9 := ok_append HS.out.2.2.2.2 HS.out.1.ris (fileW m) t (by rw [fileW_len]; omega) (by omega)
    rw [e1] at h9
    exact ⟨s', e1, e2, by have := HS.out.2.2.2.1; omega, h9⟩)
   refine wp_region_held_drew (S := fun W => Hid (∃ T, Step [] T w W)) (by kernel_rfl) (Lib.hid ⟨S, by rw [← hV]; exact HV.out.2⟩) (fun hHeld => ?_)
   rw [← hV] at hHeld ⊢
   clear hV
   refine wpAnyH_take (i := 0) (v := ?_) rfl (by kernel_rfl) (by kernel_rfl) (by kernel_rfl) (fun _ _ _ h => h) (Or.inl ⟨by rfl, ?_⟩) hHeld ?_
   rotate_left
   ·intro w hSw1
    try dsimp only at hSw1
    go_simp
    try (with_reducible rfl)
   try simp only [Act.put, LsA, LsB, LsC, LsD, LsE, LsF]
   refine wpAnyH_take (i := 1) (v := ?_) rfl (by kernel_rfl) (by kernel_rfl) (by kernel_rfl) (fun _ _ _ h => h) (Or.inl ⟨by rfl, ?_⟩) hHeld ?_
   rotate_left
   ·intro w hSw1
    try dsimp only at hSw1
    go_simp
    try (with_reducible rfl)
   try simp only [Act.put, LsA, LsB, LsC, LsD, LsE, LsF]
   refine wpAnyH_take (i := 2) (v := ?_) rfl (by kernel_rfl) (by kernel_rfl) (by kernel_rfl) (fun _ _ _ h => h) (Or.inl ⟨by rfl, ?_⟩) hHeld ?_
   rotate_left
   ·intro w hSw1
    try dsimp only at hSw1
    go_simp
    try (with_reducible rfl)
   try simp only [Act.put, LsA, LsB, LsC, LsD, LsE, LsF]
   refine wpAnyH_take (i := 3) (v := ?_) rfl (by kernel_rfl) (by kernel_rfl) (by kernel_rfl) (fun _ _ _ h => h) (Or.inl ⟨by rfl, ?_⟩) hHeld ?_
   rotate_left
   ·intro w hSw1
    try dsimp only at hSw1
    go_simp
    try (with_reducible rfl)
   try simp only [Act.put, LsA, LsB, LsC, LsD, LsE, LsF]
   refine wpAnyH_take (i := 4) (v := ?_) rfl (by kernel_rfl) (by kernel_rfl) (by kernel_rfl) (fun _ _ _ h => h) (Or.inl ⟨by rfl, ?_⟩) hHeld ?_
   rotate_left
   ·intro w hSw1
    obtain ⟨T, hT⟩ := hSw1.out
    have z1 := hT.cell HZ.out.1 (by simp)
    go_simp
    try (with_reducible rfl)
   try simp only [Act.put, LsA, LsB, LsC, LsD, LsE, LsF]
   refine wpAnyH_take (i := 5) (v := ?_) rfl (by kernel_rfl) (by kernel_rfl) (by kernel_rfl) (fun _ _ _ h => h) (Or.inl ⟨by rfl, ?_⟩) hHeld ?_
   rotate_left
   ·intro w hSw1
    try dsimp only at hSw1
    go_simp
    try (with_reducible rfl)
   try simp only [Act.put, LsA, LsB, LsC, LsD, LsE, LsF]
   refine wpAnyH_take (i := 6) (v := ?_) rfl (by kernel_rfl) (by kernel_rfl) (by kernel_rfl) (fun _ _ _ h => h) (Or.inl ⟨by rfl, ?_⟩) hHeld ?_
   rotate_left
   ·intro w hSw1
    try dsimp only at hSw1
    go_simp
    try (with_reducible rfl)
   try simp only [Act.put, LsA, LsB, LsC, LsD, LsE, LsF]
   refine wpAnyH_take (i := 8) (v := ?_) rfl (by kernel_rfl) (by kernel_rfl) (by kernel_rfl) (fun _ _ _ h => h) (Or.inl ⟨by rfl, ?_⟩) hHeld ?_
   rotate_left
   ·intro w hSw1
    try dsimp only at hSw1
    go_simp
    try (with_reducible rfl)
   try simp only [Act.put, LsA, LsB, LsC, LsD, LsE, LsF]
   refine wpAnyH_take (i := 9) (v := ?_) rfl (by kernel_rfl) (by kernel_rfl) (by kernel_rfl) (fun _ _ _ h => h) (Or.inl ⟨by rfl, ?_⟩) hHeld ?_
   rotate_left
   ·intro w hSw1
    try dsimp only at hSw1
    go_simp
    try (with_reducible rfl)
   try simp only [Act.put, LsA, LsB, LsC, LsD, LsE, LsF]
   refine wpAnyH_take (i := 10) (v := ?_) rfl (by kernel_rfl) (by kernel_rfl) (by kernel_rfl) (fun _ _ _ h => h) (Or.inl ⟨by rfl, ?_⟩) hHeld ?_
   rotate_left
   ·intro w hSw1
    try dsimp only at hSw1
    go_simp
    try (with_reducible rfl)
   try simp only [Act.put, LsA, LsB, LsC, LsD, LsE, LsF]
   refine wpAnyH_take (i := 11) (v := ?_) rfl (by kernel_rfl) (by kernel_rfl) (by kernel_rfl) (fun _ _ _ h => h) (Or.inl ⟨by rfl, ?_⟩) hHeld ?_
   rotate_left
   ·intro w hSw1
    obtain ⟨T, hT⟩ := hSw1.out
    have z1 := hT.cell HZ.out.2 (by simp)
    go_simp
    try (with_reducible rfl)
   try simp only [Act.put, LsA, LsB, LsC, LsD, LsE, LsF]
   refine wpAnyH_ready (rs := [7]) (by kernel_rfl) (by simp) ?_
   refine AllReadyH.cons rfl (fun K hK => ?_) AllReadyH.nil
   go_simp
   refine (rfile_any m hml V).mono ?_; rintro e1 u1 ⟨rfl, k1⟩; have Q1 : Hid (Dk u1 S d s ∧ Step [] S w u1) := Lib.hid ⟨HV.out.1.keep k1, HV.out.2.trans ((k1.drop (S'' := []) (by simp)).keep _)⟩; clear k1
   go_wp2_with fail
   refine hK.out _ _ (Lib.hid ⟨S, Q1.out.2⟩) (fun hHeld2 => ?_)
   clear hK K hHeld
   try simp only [Act.put, LsA, LsB, LsC, LsD, LsE, LsF]
   refine wpAnyH_ready (rs := [12]) (by kernel_rfl) (by simp) ?_
   refine AllReadyH.cons rfl (fun K hK => ?_) AllReadyH.nil
   go_simp
   refine (append_any (fileW m) t u1 S d s Q1.out.1 HS.out.2.2.2.2.b (HT.out.2.step Q1.out.2) ⟨by rw [fileW_len]; omega, by omega⟩).mono ?_; rintro e2 u2 ⟨rfl, S2, hd2, k2⟩; have Q2 : Hid (Dk u2 S2 d (appendS s (fileW m) t).2 ∧ Step [] S2 w u2) := Lib.hid ⟨hd2, Q1.out.2.trans k2⟩; clear hd2 k2; obtain ⟨er, her⟩ : ∃ er, er = (appendS s (fileW m) t).1 := ⟨_, rfl⟩; rw [← her]; clear her
   go_wp2_with fail
   refine hK.out _ _ (Lib.hid ⟨S2, Q2.out.2⟩) (fun hHeld3 => ?_)
   clear hK K hHeld2
   try simp only [Act.put, LsA, LsB, LsC, LsD, LsE, LsF]
   refine wpAnyH_done (by kernel_rfl) ?_ _
   have HN9 : Hid (AnyR w d (j + 1) u2) := Lib.hid (by
    obtain ⟨s', e1, e2, e3, e4⟩ := HAP.out
    have h := Q2.out
    rw [e1] at h
    exact ⟨S2, s', h.1, h.2, e2, e3, e4⟩)
   clear HAP Q1 Q2 HV HS hHeld3
   go_wp2_with fail
   go_roundw
   case rel => exact ⟨j + 1, by go_num, by omega, by omega, by omega, HN9⟩
   case measure => simp [intOf]; omega
 case rest =>
  rename World => W3
  obtain ⟨j, hj8, S, s, hd, hst, hs, hu, hO⟩ := hcut.out
  obtain ⟨wl, out, s', w2', e1, hs', e2, hright⟩ := open_any hs
  have HS := Lib.hid (And.intro hd (And.intro hst (And.intro hs' (And.intro hO hright))))
  have hop := wopen_any W3 S d s j hd hO (by omega) hs.nm w HT.out.1 hst
  have hO' := open_ok hO
  rw [e1] at hop hO'
  have HO' := Lib.hid hO'
  have HE2 := Lib.hid e2
  clear hd hst hs hu hO hs' hright e1 e2 hO' hcut H2
  go_wp2_with fail
  refine hop.mono ?_
  intro e w4 hp
  obtain ⟨S4, b4, a4, cap4, rfl, hlw, hrow, hst4, hna, _⟩ := open_lw HS.out.2.1 hp rfl
  have H4 : Hid (Dk w4 S4 d s' ∧ Step [] S4 w w4 ∧ Row w4 5 a4 out.length cap4 (rcs out) ∧ ∀ g, g ∈ blks a4 → g ∉ S4) := Lib.hid ⟨hlw.dk, hlw.disk, hrow, fun g hg => (hna g hg).1⟩
  clear hlw hrow hst4 hna hp hop
  simp only at H4 ⊢
  go_wp2_with fail
  refine (used_any w4 S4 d s' H4.out.1 HO'.out.b).mono ?_
  rintro e w5 ⟨rfl, k5⟩
  obtain ⟨us, hus⟩ : ∃ us, us = usedS s' := ⟨_, rfl⟩
  have HUS := Lib.hid hus
  rw [← hus]
  clear hus
  have H5 : Hid (Dk w5 S4 d s' ∧ Step [] S4 w w5 ∧ Row w5 5 a4 out.length cap4 (rcs out) ∧ ∀ g, g ∈ blks a4 → g ∉ S4) := Lib.hid ⟨H4.out.1.keep k5, H4.out.2.1.trans ((k5.drop (S'' := []) (by simp)).keep _), H4.out.2.2.1.step k5 (by simp), H4.out.2.2.2⟩
  clear k5 H4
  go_wp2_with fail
  have hop := wopen_any w5 S4 d s' j H5.out.1 HO'.out (by omega) HS.out.2.2.1.nm w HT.out.1 H5.out.2.1
  rw [HE2.out] at hop
  refine hop.mono ?_
  intro e w6 hp
  obtain ⟨S6, b6, a6, cap6, rfl, hlw, hrow, hst6, hna, _⟩ := open_lw H5.out.2.1 hp rfl
  have H6 : Hid (Dk w6 S6 d s' ∧ Step [] S6 w w6 ∧ Row w6 5 a4 out.length cap4 (rcs out) ∧ Row w6 5 a6 out.length cap6 (rcs out)) := Lib.hid ⟨hlw.dk, hlw.disk, H5.out.2.2.1.step hst6 H5.out.2.2.2, hrow⟩
  clear hlw hrow hst6 hna hp hop H5
  simp only at H6 ⊢
  go_wp2_with fail
  refine (rsame_any out out a4 a6 cap4 cap6 w6 H6.out.2.2.1.rd H6.out.2.2.2.rd (row_len H6.out.2.2.1)).mono ?_
  rintro e w7 ⟨rfl, k7⟩
  have H7 : Hid (Dk w7 S6 d s' ∧ Step [] S6 w w7 ∧ Row w7 5 a4 out.length cap4 (rcs out)) := Lib.hid ⟨H6.out.1.keep k7, H6.out.2.1.trans ((k7.drop (S'' := []) (by simp)).keep _), H6.out.2.2.1.step k7 (by simp)⟩
  clear k7 H6
  rw [show decide (out = out) = true from decide_eq_true rfl]
  go_wp2_with fail
  refine (rallright_any out a4 cap4 w7 H7.out.2.2.rd (row_len H7.out.2.2) HS.out.2.2.2.2).mono ?_
  rintro e w8 ⟨rfl, k8⟩
  have H8 : Hid (Dk w8 S6 d s' ∧ Step [] S6 w w8) := Lib.hid ⟨H7.out.1.keep k8, H7.out.2.1.trans ((k8.drop (S'' := []) (by simp)).keep _)⟩
  clear k8 H7
  go_wp2_with fail
  refine (used_any w8 S6 d s' H8.out.1 HO'.out.b).mono ?_
  rintro e w9 ⟨rfl, k9⟩
  rw [← HUS.out]
  have H9 := Lib.hid (H8.out.2.trans ((k9.drop (S'' := []) (by simp)).keep _))
  clear k9 H8
  go_wp2_with fail
  exact bodyPost_ret (results_tmp rfl _ _ _) rfl ⟨rfl, H9.out.drop (by simp)⟩
theorem WalAny_walk (v0 v1 : Value) (w : World) {b0 : Nat} (h0 : Value.okWide Tryz.prog w .any b0 22 v0) (o0 : Op Tryz.prog w 22 v0.cells.toList) (h1 : Value.okWide Tryz.prog w .any b0 23 v1) (o1 : Op Tryz.prog w 23 v1.cells.toList) (hT : LTabs w) :
  Calls Tryz.prog 3 #[v0, v1] w fun e w' => e = .returned (.bool true) ∧ Below w.heap.size w w' := by
 obtain ⟨bs, a1, c1, rfl, hr1, hb1, hl1⟩ := op_u8s h0 o0
 obtain ⟨ts, a2, c2, rfl, hr2, hb2, hl2⟩ := op_txts h1 o1
 exact (any07_any bs ts a1 a2 c1 c2 w hT.pow hT.u8 hr1 hr2 hb1 hb2 hl1 hl2).mono fun e w' ⟨h1, h2⟩ => ⟨h1, h2.below0⟩

set_option maxRecDepth 100000 in
theorem WalAny_lifted (os : Os) (started : os.Started) (H : Type) (enc : TypeId × Value → H) :
  ReturnsInHanded {} Tryz.checked os 3 .any (fun w args => (Rows.walAnySpec.pre enc Tryz.prog Tryz.f3 [] false w args ∧ laidMetH Tryz.prog scrLaid w) ∧ sizedMet enc Tryz.prog Tryz.f3 (OpenSpec.ofChange Rows.walAnySpec) false w args)
   (Rows.walAnySpec.post enc Tryz.prog Tryz.f3 false true false false) := by
 refine returnsInHanded_of_change_tabs (C := Tryz.checked) (X := fun w _ => laidMetH Tryz.prog scrLaid w) (fun _ _ _ hh h => h.of_heap hh) (by kernel_rfl) started (by kernel_rfl) Tryz.func3
  (ChangeSpec.witness_shaped (enc := enc) (C := Tryz.checked) (os := os) (X := fun w _ => laidMetH Tryz.prog scrLaid w) false (World.laidAll Tryz.prog os scrLaid) #[.slice none 0 0, .slice none 0 0] 8 (World.laidAll_os _ _ _)
   (World.shaped_of_ZipB (by kernel_rfl) (by kernel_rfl)) (by kernel_rfl) (by kernel_rfl) (by kernel_rfl)
   (by rw [MakeChecks.laidMetH_plain _ _ _ (by kernel_rfl)]; exact laidMet_laidAll _ (by kernel_rfl) (by kernel_rfl))) ?_
 intro W base args ds gs before hval0 hW _ hsz0 hL hS _
 have hval : ∀ (j : Nat) t v, Tryz.f3.params[j]? = some t → args[j]? = some v → Value.okWide Tryz.prog W .any base t v := hval0
 have hsz : (DataW.weightsEach Tryz.prog (Tryz.f3.params.toList ++ Rows.walAnySpec.plain.varTypes Tryz.prog) (ds ++ gs)).all (· ≤ reachBytes) = true := hsz0
 have hW' := hW
 have hT := stabs_of hL hS
 obtain ⟨p, q, hA0, hV, rfl, _, _⟩ := hW
 have hA : DataW.TrodAll enc Tryz.prog W 0 (fun _ => true) true Tryz.f3.params.toList args.toList ds p := hA0
 rw [Tryz.params3] at hA hval hsz
 obtain ⟨v0, vs0, d0, ds0, p0, q0, hargs, rfl, rfl, h0, r0⟩ := trodAll_cons hA
 obtain ⟨v1, vs1, d1, ds1, p1, q1, rfl, rfl, rfl, h1, r1⟩ := trodAll_cons r0
 obtain ⟨rfl, rfl, rfl⟩ := trodAll_nil r1
 obtain rfl : args = #[v0, v1] := by cases args; simp_all
 obtain ⟨rfl, rfl⟩ := trodVars_none hV
 have lt0 : ∀ x ∈ p0, x.block < W.heap.size := by obtain ⟨m, hm⟩ := h0; exact DataW.trod_lt m _ _ _ hm
 have o0 := op_of hsz (j := 0) rfl rfl h0
 have lt1 : ∀ x ∈ p1, x.block < W.heap.size := by obtain ⟨m, hm⟩ := h1; exact DataW.trod_lt m _ _ _ hm
 have o1 := op_of hsz (j := 1) rfl rfl h1
 refine (WalAny_walk v0 v1 W (hval 0 _ v0 rfl rfl) o0 (hval 1 _ v1 rfl rfl) o1 hT).mono fun e W' ⟨he, bel⟩ => ?_
 subst he
 exact ⟨_, rfl, _, _, _, [], _, [], hW', trodAll_mk1 (shut_bool Tryz.underlying4 _), (trodAll_cons_mk (Below.trod (by kernel_rfl) (by kernel_rfl) (of_decide_eq_true (by kernel_rfl)) h0 bel lt0) (trodAll_cons_mk (Below.trod (by kernel_rfl) (by kernel_rfl) (of_decide_eq_true (by kernel_rfl)) h1 bel lt1) trodAll_mk0)), rfl, bel.frame _, fun h => by cases h⟩

/-- The row's statement. -/
theorem WalAny_row : Rows.WalAnySaid :=
 OpenClaim.holds_of_wide 3 Tryz.f3 rfl rfl rfl rfl rfl rfl rfl ⟨rfl, rfl, rfl, rfl, rfl⟩ rfl rfl rfl rfl rfl (by kernel_rfl) Tryz.func3 (by kernel_rfl)
  (of_decide_eq_true (by kernel_rfl)) (by unfold Func.isWrapper; rw [if_neg (of_decide_eq_false (by kernel_rfl))]; exact ⟨rfl, rfl⟩)
  (fun os started H enc _ => WalAny_lifted os started H enc)
/-- The card. -/
theorem WalAny_holds : Rows.WalAnyCardSaid :=
 Claim7.holds_tied_plain_at .later [] [.data, .data, .data, .data, .sentinel, .sentinel, .pinned] true Rows.walAnyCard.stood.harness true
  WalAny_row (fun _ h => by cases h) (by kernel_rfl) (fun _ h => by cases h) walAny_row_tie rfl ⟨rfl, rfl⟩ (by kernel_rfl) rfl
  (fun f fn hf hfn => by
   obtain rfl : f = 3 := Option.some.inj ((show Tryz.prog.funcNamed "exchequer/exchequerlaw07.WalAny" = some 3 by kernel_rfl).symm.trans hf) |>.symm
   obtain rfl : fn = Tryz.f3 := (Option.some.inj (Tryz.func3.symm.trans hfn)).symm
   exact ⟨by kernel_rfl, fun j t ht => by
    rw [Tryz.params3] at ht
    have hm : t ∈ [22, 23] := by simpa using Array.mem_of_getElem? ht
    have hall : ([22, 23].all fun u => !Tryz.prog.wantsStandIn u) = true := by kernel_rfl
    exact (show Tryz.prog.wantsStandIn t = false by simpa using List.all_eq_true.1 hall t hm)⟩)
  (by kernel_rfl)
#print axioms WalAny_holds
end Go.Proofs.YtnkbphecabnnaaaGreatDoor
