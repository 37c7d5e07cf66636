/-
 A disk's Append in memory; and on no disk. Conditions: the bounds of StB; the tables of utf8.
-/
import Derived.Test.YtnkbphecabnnaaaGreatDoorZGK
namespace Go.Proofs.YtnkbphecabnnaaaGreatDoor
open Go.RowKit Go.Maps
set_option linter.unusedSimpArgs false
set_option linter.unusedVariables false
set_option maxRecDepth 100000


/-- A new file. -/
theorem Dkm.put {w w' : World} {S S' : List Nat} {d m n : Nat} {L : List Fil} {room fuse : Int} {off : Bool} (h : Dkm w S d m L room fuse off) (x : Fil) (hx : fget L x.n = none) (hnew : w.heap.size ≤ x.b) (k : Step [m] S' w w')
  (ho : w'.ownsMap Tryz.prog 9 ptrElem m n (dat (fins x L))) (hb : Blk w' x.b 64 (flc x.d x.l)) : Dkm w' (d :: m :: (fins x L).map Fil.b) d m (fins x L) room fuse off := by
 have hm := h.m_ne h.blk
 have hnod := h.nod
 refine ⟨rfl, h.blk.step k (by simpa using fun e => hm e.symm), owns_size ho, fun f hf => ?_, fins_ris h.ris (fget_none hx), ?_⟩
 ·rcases fins_mem.1 hf with rfl | hf
  ·exact hb
  ·have := h.m_ne (h.fil f hf)
   exact (h.fil f hf).step k (by simpa using fun e => this e.symm)
 ·have hlt : ∀ f ∈ L, f.b ≠ x.b := fun f hf e => by have := (h.fil f hf).lt; omega
  obtain ⟨A, B, rfl, h2⟩ := fins_split x L
  rw [h2, List.map_append, List.map_cons]
  rw [List.map_append] at hnod
  obtain ⟨n1, n2, n3⟩ := List.nodup_append.1 hnod
  refine List.nodup_append.2 ⟨n1, List.nodup_cons.2 ⟨fun hm => ?_, n2⟩, fun a ha b hb e => ?_⟩
  ·obtain ⟨f, hf, e⟩ := List.mem_map.1 hm
   exact hlt f (by simp [hf]) e
  ·rcases List.mem_cons.1 hb with rfl | hb
   ·obtain ⟨f, hf, e2⟩ := List.mem_map.1 ha
    exact hlt f (by simp [hf]) (e2.trans e)
   ·exact n3 a ha b hb e
set_option maxHeartbeats 1000000 in
theorem append_any (x b : List UInt8) (w : World) (S : List Nat) (d : Nat) (s : St) (h : Dk w S d s) (hB : StB s) (hT : Tabs w) (hx : x.length ≤ 1099511627776 ∧ b.length ≤ 1099511627776) : Calls Tryz.prog 9 #[.pointer (some ⟨d, 0, none⟩), Str x, Str b] w (DkP (appendS s x b) S d w) := by
 have HB := Lib.hid (And.intro hB hT)
 have HX := Lib.hid hx
 obtain ⟨hr0, hr1⟩ := hB.room
 have HD := Lib.hid h
 clear hB hT hx h
 go_enter Tryz.func9, Tryz.ntmps9
 go_wp2_with fail
 obtain ⟨m0, L0, h0, _⟩ := HD.out
 refine (down_any w d m0 s.room s.fuse s.off h0.blk).mono ?_
 clear h0
 rintro e w1 ⟨rfl, rfl⟩
 cases ho : s.off with
 | true =>
  have HO := Lib.hid ho
  clear ho
  go_wp2_with fail
  refine bodyPost_ret (results_tmp rfl _ _ _) rfl ?_
  simp only [DkP, appendS, HO.out, if_true]
  exact ⟨rfl, S, HD.out, Step.refl _ _⟩
 | false =>
  have HO := Lib.hid ho
  clear ho
  go_wp2_with fail
  refine (right_any x w HX.out.1 HB.out.2).mono ?_
  rintro e w1 ⟨rfl, hw1⟩
  have H1 : Hid (Dk w1 S d s ∧ Step [] [] w w1) := Lib.hid ⟨HD.out.keep hw1, hw1⟩
  clear hw1
  cases hr : rightL x with
  | false =>
   have HR := Lib.hid hr
   clear hr
   go_wp2_with fail
   refine bodyPost_ret (results_tmp rfl _ _ _) rfl ?_
   simp only [DkP, appendS, HO.out, HR.out, if_true, Bool.false_eq_true, if_false]
   exact ⟨rfl, S, H1.out.1, H1.out.2.keep S⟩
  | true =>
   have HR := Lib.hid hr
   clear hr
   have hbl : b.length ≤ 1099511627776 := HX.out.2
   have H1d : Hid (Dk w1.drew S d s ∧ Step [] [] w w1.drew) := Lib.hid ⟨H1.out.1.keep (Step.refl [] w1).drew, H1.out.2.drew⟩
   obtain ⟨U, hU⟩ : ∃ U, U = usedS s := ⟨_, rfl⟩
   have hUb : U ≤ 8388608 := by rw [hU, show usedS s = usedE s.E by simp [usedS, HO.out]]; exact HB.out.1.used
   have HU := Lib.hid hU
   clear hU
   have hwr : IntKind.i64.wrap (s.room - (U : Int)) = s.room - (U : Int) := IntWalk.i64_in _ (by omega)
   go_upto_region 5 with fail
   refine wp_region_held_drew (S := fun W => Hid (Dk W S d s ∧ Step [] [] w W)) (by kernel_rfl) (H1d) (fun hHeld => ?_)
   refine wpAnyH_take (i := 0) (v := ?_) rfl (by kernel_rfl) (by kernel_rfl) (by kernel_rfl) (fun _ _ _ h => h) (Or.inl ⟨by rfl, ?_⟩) hHeld ?_
   rotate_left
   ·intro w hSw1
    try dsimp only at hSw1
    go_simp
    try (with_reducible rfl)
   try simp only [Act.put, LsA, LsB, LsC, LsD, LsE, LsF]
   refine wpAnyH_take (i := 1) (v := ?_) rfl (by kernel_rfl) (by kernel_rfl) (by kernel_rfl) (fun _ _ _ h => h) (Or.inl ⟨by rfl, ?_⟩) hHeld ?_
   rotate_left
   ·intro w hSw1
    try dsimp only at hSw1
    go_simp
    try (with_reducible rfl)
   try simp only [Act.put, LsA, LsB, LsC, LsD, LsE, LsF]
   refine wpAnyH_take (i := 2) (v := ?_) rfl (by kernel_rfl) (by kernel_rfl) (by kernel_rfl) (fun _ _ _ h => h) (Or.inl ⟨by rfl, ?_⟩) hHeld ?_
   rotate_left
   ·intro w hSw1
    try dsimp only at hSw1
    go_simp
    try (with_reducible rfl)
   try simp only [Act.put, LsA, LsB, LsC, LsD, LsE, LsF]
   refine wpAnyH_take (i := 3) (v := ?_) rfl (by kernel_rfl) (by kernel_rfl) (by kernel_rfl) (fun _ _ _ h => h) (Or.inl ⟨by rfl, ?_⟩) hHeld ?_
   rotate_left
   ·intro w hSw1
    try dsimp only at hSw1
    go_simp
    try (with_reducible rfl)
   try simp only [Act.put, LsA, LsB, LsC, LsD, LsE, LsF]
   refine wpAnyH_take (i := 4) (v := ?_) rfl (by kernel_rfl) (by kernel_rfl) (by kernel_rfl) (fun _ _ _ h => h) (Or.inl ⟨by rfl, ?_⟩) hHeld ?_
   rotate_left
   ·intro w hSw1
    try dsimp only at hSw1
    go_simp
    try (with_reducible rfl)
   try simp only [Act.put, LsA, LsB, LsC, LsD, LsE, LsF]
   refine wpAnyH_take (i := 5) (v := ?_) rfl (by kernel_rfl) (by kernel_rfl) (by kernel_rfl) (fun _ _ _ h => h) (Or.inl ⟨by rfl, ?_⟩) hHeld ?_
   rotate_left
   ·intro w hSw1
    have t0 := hSw1.out.1
    obtain ⟨m0, L0, t1, _⟩ := t0
    have tc := t1.blk.cell 1
    have tl := t1.blk.lt
    simp only [List.getElem?_toArray, List.getElem?_cons_zero, List.getElem?_cons_succ] at tc
    clear t1
    go_simp
    try (with_reducible rfl)
   try simp only [Act.put, LsA, LsB, LsC, LsD, LsE, LsF]
   refine wpAnyH_take (i := 6) (v := ?_) rfl (by kernel_rfl) (by kernel_rfl) (by kernel_rfl) (fun _ _ _ h => h) (Or.inl ⟨by rfl, ?_⟩) hHeld ?_
   rotate_left
   ·intro w hSw1
    try dsimp only at hSw1
    go_simp
    try (with_reducible rfl)
   try simp only [Act.put, LsA, LsB, LsC, LsD, LsE, LsF]
   refine wpAnyH_ready (rs := [7]) (by kernel_rfl) (by simp) ?_
   refine AllReadyH.cons rfl (fun K hK => ?_) AllReadyH.nil
   go_simp
   refine (used_any _ S d s hHeld.out.1 HB.out.1).mono ?_; rintro e w2 ⟨rfl, hu2⟩; rw [← HU.out]; have H2 : Hid (Dk w2 S d s ∧ Step [] [] w w2) := Lib.hid ⟨hHeld.out.1.keep hu2, hHeld.out.2.trans hu2⟩; clear hu2
   go_wp2_with fail
   refine hK.out _ _ (H2) (fun hHeld2 => ?_)
   clear hK K hHeld
   try simp only [Act.put, LsA, LsB, LsC, LsD, LsE, LsF]
   refine wpAnyH_take (i := 8) (v := ?_) rfl (by kernel_rfl) (by kernel_rfl) (by kernel_rfl) (fun _ _ _ h => h) (Or.inl ⟨by rfl, ?_⟩) hHeld2 ?_
   rotate_left
   ·intro w hSw1
    try dsimp only at hSw1
    go_simp
    try (with_reducible rfl)
   try simp only [Act.put, LsA, LsB, LsC, LsD, LsE, LsF]
   refine wpAnyH_take (i := 9) (v := ?_) rfl (by kernel_rfl) (by kernel_rfl) (by kernel_rfl) (fun _ _ _ h => h) (Or.inl ⟨by rfl, ?_⟩) hHeld2 ?_
   rotate_left
   ·intro w hSw1
    try dsimp only at hSw1
    go_simp
    try (with_reducible rfl)
   try simp only [Act.put, LsA, LsB, LsC, LsD, LsE, LsF]
   refine wpAnyH_take (i := 10) (v := ?_) rfl (by kernel_rfl) (by kernel_rfl) (by kernel_rfl) (fun _ _ _ h => h) (Or.inl ⟨by rfl, ?_⟩) hHeld2 ?_
   rotate_left
   ·intro w hSw1
    try dsimp only at hSw1
    go_simp
    try (with_reducible rfl)
   try simp only [Act.put, LsA, LsB, LsC, LsD, LsE, LsF]
   refine wpAnyH_done (by kernel_rfl) ?_ _
   have hgt : decide (s.room - (U : Int) < (b.length : Int)) = (decide ((usedE s.E : Int) + b.length > s.room)) := by
    have e : U = usedE s.E := by rw [HU.out]; simp [usedS, HO.out]
    rw [← e]
    exact decide_eq_decide.2 (by omega)
   cases hfull : decide ((usedE s.E : Int) + b.length > s.room) with
   | true =>
    rw [hfull] at hgt
    have HF := Lib.hid (of_decide_eq_true hfull)
    clear hfull
    rw [hgt]
    go_wp2_with fail
    refine bodyPost_ret (results_tmp rfl _ _ _) rfl ?_
    simp only [DkP, appendS, HO.out, HR.out, Bool.false_eq_true, if_false, Bool.true_eq_false]
    rw [if_pos HF.out]
    exact ⟨rfl, S, H2.out.1, H2.out.2.keep S⟩
   | false =>
    rw [hfull] at hgt
    have HF := Lib.hid (of_decide_eq_false hfull)
    clear hfull
    rw [hgt]
    go_wp2_with fail
    clear hgt hwr hr0 hr1 hUb hbl
    obtain ⟨m, L, h1, h2⟩ := H2.out.1
    refine (burns_any w2 d m s.room s.fuse s.off h1.blk HB.out.1.fuse.2).mono ?_
    rintro e w3 ⟨rfl, hb3, hs3⟩
    have h3 := h1.head hs3 hb3
    have hw3 : Step S S w w3 := (H2.out.2.keep S).trans (hs3.wide (by intro k hk; simp only [List.mem_singleton] at hk; rw [hk, h1.hS]; simp) (by intro k hk; exact .inl hk))
    have H3 := Lib.hid (And.intro h3 (And.intro hw3 h2))
    clear h1 h2 h3 hb3 hs3 hw3 H2
    cases hbo : burnO s.fuse s.off with
    | true =>
     have HQ := Lib.hid (show s.burn.off = true from hbo)
     rw [hbo] at H3
     clear hbo
     go_wp2_with fail
     refine bodyPost_ret (results_tmp rfl _ _ _) rfl ?_
     simp only [DkP, appendS, HO.out, HR.out, HQ.out, Bool.false_eq_true, if_false, if_true, Bool.true_eq_false]
     rw [if_neg (by have := HF.out; omega)]
     exact ⟨rfl, S, ⟨m, L, by rw [HQ.out]; exact H3.out.1, H3.out.2.2⟩, H3.out.2.1⟩
    | false =>
     have HQ := Lib.hid (show s.burn.off = false from hbo)
     rw [hbo] at H3
     clear hbo
     have hl := owns_look_ok (t := 57) (e := 61) H3.out.1.own Tryz.underlying9 Tryz.underlying57 (Tryz.zeroValue61 w3) x (by have := HX.out.1; unfold maxLen; omega)
     have c0 := H3.out.1.blk.cell 0
     simp only [List.getElem?_toArray, List.getElem?_cons_zero, List.getElem?_cons_succ] at c0
     cases hg : fget L x with
     | some f =>
      rw [hg] at hl
      simp only at hl
      have HG := Lib.hid hg
      obtain ⟨hfn, A, B, hL, hA⟩ := fget_some hg
      have HL := Lib.hid (And.intro hfn hL)
      have hfm : f ∈ L := by rw [hL]; simp
      have hfb := H3.out.1.fil f hfm
      have c1 := hfb.cell 1
      simp only [List.getElem?_toArray, List.getElem?_cons_zero, List.getElem?_cons_succ] at c1
      have f1 := hfb.frozen 1
      have fl := hfb.lt
      have HFB := Lib.hid (And.intro hfb hfm)
      clear hfb hg hfn hL hA hfm
      have hfu := Lib.hid (en_used H3.out.2.2 HB.out.1 HFB.out.2)
      have hcat : f.l.length + b.length ≤ 9223372036854775807 := by have := hfu.out; have := HX.out.2; omega
      go_wp2_with fail
      have hkk : Step [f.b] [f.b] w3 (w3.setCell ⟨f.b, 1, none⟩ (Str (f.l ++ b))) := (Step.refl [f.b] w3).setCell (p := ⟨f.b, 1, none⟩) (.inl (by simp)) _
      have hbb := HFB.out.1.set 1 (Str (f.l ++ b))
      obtain ⟨hfn, hL⟩ := HL.out
      have hLA : Dkm w3 S d m (A ++ f :: B) s.room (burnF s.fuse) false := by rw [← hL]; exact H3.out.1
      have hfin := hLA.file (f := f) (g := ⟨f.n, f.b, f.d, f.l ++ b⟩) hkk rfl rfl (by simpa using hbb)
      refine bodyPost_ret (results_tmp rfl _ _ _) rfl ?_
      simp only [DkP, appendS, HO.out, HR.out, HQ.out, Bool.false_eq_true, if_false, Bool.true_eq_false]
      rw [if_neg (by have := HF.out; omega)]
      refine ⟨rfl, S, ⟨m, A ++ ⟨f.n, f.b, f.d, f.l ++ b⟩ :: B, by simp only [HQ.out]; exact hfin, ?_⟩, H3.out.2.1.trans (Step.wide (hkk) (by intro k hk; simp only [List.mem_singleton] at hk; rw [hk]; exact H3.out.1.memS HFB.out.2) (by intro k hk; exact .inl hk))⟩
      have hE : eget s.E x = some f.en := by rw [← H3.out.2.2, fget_en, HG.out]; rfl
      simp only [addE, hE]
      rw [← H3.out.2.2, hL, ← hfn]
      simp only [List.map_append, List.map_cons]
      exact (emod_mid (f := f.en) (by have := ris_en.2 H3.out.1.ris; rw [hL] at this; simpa using this) fun f => ⟨f.n, f.d, f.l ++ b⟩).symm
     | none =>
      rw [hg] at hl
      simp only at hl
      have HG := Lib.hid hg
      clear hg
      have dl := H3.out.1.blk.lt
      have HLM : Hid (L.length < maxLen) := Lib.hid (by have := HB.out.1.len; rw [← H3.out.2.2] at this; simp at this; unfold maxLen; omega)
      go_upto_region 13 with (at_mapUpdate; refine wpList_mapUpdate_own _ rfl _ _ _ 57 rfl 9 61 (string_keyed Tryz.underlying9) Tryz.underlying57 ptrElem m L.length (dat L) rfl (H3.out.1.own.alloc _) HLM.out _ _ _ rfl rfl (WideMaps.keyOf_string_mk Tryz.underlying9 (s := ⟨x.toArray⟩) (by have := HX.out.1; unfold maxLen; simp [ByteArray.size]; omega)) _ [] (ptrElem_mk w3.heap.size) ?_; intro w4 hown4 hgrow4)
      go_frame
      have hNB := Blk.new w3 64 #[.string ⟨#[]⟩, .string ⟨#[]⟩]
      have hk4 : Step [m] [m] w3 w4 := ((Step.refl [m] w3).alloc (.cells #[.string ⟨#[]⟩, .string ⟨#[]⟩] 64)).of_grown hgrow4 (by intro j hj; cases hj; exact .inl (by simp))
      have hmne : m < w3.heap.size := H3.out.1.own.lt
      have hb4 : Blk w4 w3.heap.size 64 #[.string ⟨#[]⟩, .string ⟨#[]⟩] := by
       have := hgrow4.block w3.heap.size hNB.lt (by simp; omega)
       exact this.trans hNB
      have hkey : ((dat L).put (.string x) (.lit (.int .i64 (w3.heap.size : Int)))) = dat (fins ⟨x, w3.heap.size, [], b⟩ L) := dat_put L ⟨x, w3.heap.size, [], b⟩ HG.out
      have hown5 : w4.ownsMap Tryz.prog 9 ptrElem m (L.length + 1) (dat (fins ⟨x, w3.heap.size, [], b⟩ L)) := by rw [← hkey]; exact hown4
      obtain ⟨nb, hnb⟩ : ∃ nb, nb = w3.heap.size := ⟨_, rfl⟩
      rw [← hnb] at hb4 hown5 ⊢
      have HNB := Lib.hid (And.intro hnb (And.intro hk4 hown5))
      clear hown4 hgrow4 hkey hNB hk4 hmne dl hown5 hnb hl
      have c1 := hb4.cell 1
      simp only [List.getElem?_toArray, List.getElem?_cons_zero, List.getElem?_cons_succ] at c1
      have f1 := hb4.frozen 1
      have fl := hb4.lt
      have HB4 := Lib.hid hb4
      clear hb4
      have hcat : ([] : List UInt8).length + b.length ≤ 9223372036854775807 := by have := HX.out.2; simp; omega
      go_wp2_with fail
      obtain ⟨hnb, hk4, hown5⟩ := HNB.out
      have hkk : Step [m] [m] w3 (w4.setCell ⟨nb, 1, none⟩ (Str b)) := hk4.setCell (p := ⟨nb, 1, none⟩) (.inr (by simp [hnb])) _
      have hbb := HB4.out.set 1 (Str b)
      have hown6 : (w4.setCell ⟨nb, 1, none⟩ (Str b)).ownsMap Tryz.prog 9 ptrElem m (L.length + 1) (dat (fins ⟨x, nb, [], b⟩ L)) := owns_far hown5 ((Step.refl [nb] w4).setCell (p := ⟨nb, 1, none⟩) (.inl (by simp)) (Str b)) (by simp; have := H3.out.1.own.lt; omega)
      have hfin := H3.out.1.put ⟨x, nb, [], b⟩ HG.out (by simp [hnb]) hkk hown6 (by simpa using hbb)
      refine bodyPost_ret (results_tmp rfl _ _ _) rfl ?_
      simp only [DkP, appendS, HO.out, HR.out, HQ.out, Bool.false_eq_true, if_false, Bool.true_eq_false]
      rw [if_neg (by have := HF.out; omega)]
      refine ⟨rfl, _, ⟨m, fins ⟨x, nb, [], b⟩ L, by simp only [HQ.out]; exact hfin, ?_⟩, H3.out.2.1.trans (Step.wide hkk (by intro k hk; simp only [List.mem_singleton] at hk; rw [hk, H3.out.1.hS]; simp) ?_)⟩
      ·have hE : eget s.E x = none := by rw [← H3.out.2.2, fget_en, HG.out]; rfl
       simp only [addE, hE]
       rw [← H3.out.2.2]
       exact fins_en _ _
      ·intro k hk
       rw [H3.out.1.hS]
       simp only [List.mem_cons, List.mem_map] at hk ⊢
       rcases hk with h | h | ⟨f, hf, rfl⟩
       ·simp [h]
       ·simp [h]
       ·rcases fins_mem.1 hf with rfl | hf
        ·right; right; simp [hnb]
        ·left; right; right; exact ⟨f, hf, rfl⟩

end Go.Proofs.YtnkbphecabnnaaaGreatDoor
namespace Go.Proofs.YtnkbphecabnnaaaGreatDoor
open Go.RowKit Go.Maps
set_option linter.unusedSimpArgs false
set_option linter.unusedVariables false
set_option maxRecDepth 100000


def cntL (E : List En) : Nat := (E.filter fun f => !f.l.isEmpty).length
theorem cntL_one (A : List En) (x : En) : cntL (A ++ [x]) = if x.l = [] then cntL A else cntL A + 1 := by
 unfold cntL
 rw [List.filter_append, List.length_append]
 cases h : x.l with
 | nil => simp [h]
 | cons a r => simp [h]
theorem cntL_le (A : List En) : cntL A ≤ A.length := List.length_filter_le _ _
theorem crashE_app (keep : List Int) : ∀ (i : Nat) (A B : List En), crashE keep i (A ++ B) = crashE keep i A ++ crashE keep (i + cntL A) B
 | i, [], B => by simp [crashE, cntL]
 | i, x :: A, B => by
  have e : cntL (x :: A) = (if x.l = [] then 0 else 1) + cntL A := by
   unfold cntL
   cases h : x.l with
   | nil => simp [h]
   | cons a r => simp [h]; omega
  simp only [List.cons_append, crashE]
  rw [crashE_app keep _ A B, e]
  congr 2
  split <;> simp [Nat.add_assoc]
theorem crashE_len (keep : List Int) : ∀ (i : Nat) (A : List En), (crashE keep i A).length = A.length
 | i, [] => rfl
 | i, x :: A => by simp [crashE, crashE_len keep _ A]
theorem crashF_n (keep : List Int) (i : Nat) (f : En) : (crashF keep i f).n = f.n := by unfold crashF; split; rfl; split <;> rfl
theorem crashE_names (keep : List Int) : ∀ (i : Nat) (A : List En), (crashE keep i A).map En.n = A.map En.n
 | i, [] => rfl
 | i, x :: A => by simp [crashE, crashE_names keep _ A, crashF_n]
/-- The first k files have been gone through. -/
def crashU (keep : List Int) (E : List En) (k : Nat) : List En := crashE keep 0 (E.take k) ++ E.drop k
theorem crashU_zero (keep : List Int) (E : List En) : crashU keep E 0 = E := by simp [crashU, crashE]
theorem crashU_all (keep : List Int) (E : List En) : crashU keep E E.length = crashE keep 0 E := by simp [crashU]
theorem crashU_at {keep : List Int} {E : List En} {k : Nat} {x : En} (h : E[k]? = some x) : crashU keep E k = crashE keep 0 (E.take k) ++ x :: E.drop (k + 1) := by
 have hk := (List.getElem?_eq_some_iff.1 h).1
 have hx := (List.getElem?_eq_some_iff.1 h).2
 unfold crashU
 rw [List.drop_eq_getElem_cons hk, hx]
theorem crashU_succ {keep : List Int} {E : List En} {k : Nat} {x : En} (h : E[k]? = some x) : crashU keep E (k + 1) = crashE keep 0 (E.take k) ++ crashF keep (cntL (E.take k)) x :: E.drop (k + 1) := by
 have hk := (List.getElem?_eq_some_iff.1 h).1
 have hx := (List.getElem?_eq_some_iff.1 h).2
 unfold crashU
 rw [List.take_succ_eq_append_getElem hk, hx, crashE_app, List.append_assoc]
 simp [crashE]
theorem cnt_succ {E : List En} {k : Nat} {x : En} (h : E[k]? = some x) : cntL (E.take (k + 1)) = if x.l = [] then cntL (E.take k) else cntL (E.take k) + 1 := by
 have hk := (List.getElem?_eq_some_iff.1 h).1
 have hx := (List.getElem?_eq_some_iff.1 h).2
 rw [List.take_succ_eq_append_getElem hk, hx, cntL_one]
/-- The file that stands at a place. -/
theorem fil_at {L : List Fil} {A B : List En} {x : En} (h : L.map Fil.en = A ++ x :: B) : ∃ A' f B', L = A' ++ f :: B' ∧ A'.map Fil.en = A ∧ f.en = x ∧ B'.map Fil.en = B := by
 obtain ⟨A', R, rfl, h1, h2⟩ := List.map_eq_append_iff.1 h
 obtain ⟨f, B', rfl, h3, h4⟩ := List.map_eq_cons_iff.1 h2
 exact ⟨A', f, B', rfl, h1, h3, h4⟩
theorem Rd.stepP {w w' : World} {sz n : Nat} {a : Option Addr} {xs : List Value} {S S' : List Nat} (h : Rd w sz a n xs) (k : Step S S' w w') (hn : 0 < n → ∀ g, g ∈ blks a → g ∉ S) : Rd w' sz a n xs := by
 rcases Nat.eq_zero_or_pos n with h0 | h0
 ·have hx : xs = [] := List.eq_nil_of_length_eq_zero (by rw [h.len, h0]; simp)
  subst hx
  exact ⟨h.len, fun hp => by omega, fun g off sp e j u hu => by simp at hu⟩
 ·exact h.step k (hn h0)
def CrP (keep : List Int) (s : St) (S : List Nat) (d : Nat) (w : World) (e : Ending) (w' : World) : Prop := e = .returned (.tuple #[]) ∧ Dk w' S d (crashS s keep) ∧ Step S S w w'
def CrR (keep : List Int) (s : St) (S : List Nat) (d : Nat) (w : World) (ka : Option Addr) (a : Option Addr) (cap k : Nat) (W : World) : Prop :=
 Dk W S d ⟨crashU keep s.E k, s.room, -1, false⟩ ∧ Rd W 1 ka keep.length (keep.map (Value.int .i64)) ∧ Row W 1 a s.E.length cap ((s.E.map En.n).map encStr) ∧ Step S S w W
theorem CrR.next {keep : List Int} {s : St} {S : List Nat} {d m2 k cap : Nat} {w W W' : World} {ka a : Option Addr} {A B : List Fil} {f : Fil} {x : En} {d' l' : List UInt8} (h : CrR keep s S d w ka a cap k W) (hna : ∀ g, g ∈ blks a → g ∉ S) (hnk : 0 < keep.length → ∀ g, g ∈ blks ka → g ∉ S)
  (q : Dkm W S d m2 (A ++ f :: B) s.room (-1) false) (hA : A.map Fil.en = crashE keep 0 (s.E.take k)) (hB : B.map Fil.en = s.E.drop (k + 1)) (hx : s.E[k]? = some x)
  (kk : Step [f.b] [f.b] W W') (hb : Blk W' f.b 64 (flc d' l')) (hc : crashF keep (cntL (s.E.take k)) x = ⟨f.n, d', l'⟩) : CrR keep s S d w ka a cap (k + 1) W' := by
 have hS : Step S S W W' := kk.wide (by intro j hj; simp only [List.mem_singleton] at hj; rw [hj]; exact q.memS (by simp)) (by intro j hj; exact .inl hj)
 refine ⟨⟨m2, A ++ ⟨f.n, f.b, d', l'⟩ :: B, q.file kk rfl rfl hb, ?_⟩, h.2.1.stepP hS hnk, h.2.2.1.step hS hna, h.2.2.2.trans hS⟩
 simp only
 rw [crashU_succ hx, hc, List.map_append, List.map_cons, hA, hB]
 rfl

set_option maxHeartbeats 1000000 in
theorem crash_any (keep : List Int) (w : World) (S : List Nat) (d : Nat) (s : St) (ka : Option Addr) (kc : Nat) (h : Dk w S d s) (hB : StB s) (hk : Rd w 1 ka keep.length (keep.map (Value.int .i64))) (hkn : 0 < keep.length → ∀ g, g ∈ blks ka → g ∉ S) (hkl : keep.length ≤ maxLen ∧ ∀ f ∈ s.E, f.n.length ≤ 1099511627776) : Calls Tryz.prog 21 #[.pointer (some ⟨d, 0, none⟩), .slice ka keep.length kc] w (CrP keep s S d w) := by
 have HX := Lib.hid (And.intro hB (And.intro hk (And.intro hkn hkl)))
 have hnk : keep.length ≤ 9223372036854775807 := by unfold maxLen at hkl; omega
 obtain ⟨m, L, h1, h2⟩ := h
 have c2 := h1.blk.cell 2
 have c3 := h1.blk.cell 3
 simp only [List.getElem?_toArray, List.getElem?_cons_zero, List.getElem?_cons_succ] at c2 c3
 have f2 := h1.blk.frozen 2
 have f3 := h1.blk.frozen 3
 have fl := h1.blk.lt
 have HD := Lib.hid (And.intro h1 h2)
 clear h1 h2 hB hk hkn hkl
 go_enter Tryz.func21, Tryz.ntmps21
 go_upto_region 2 with fail
 have hk1 : Step [d] [d] w ((w.setCell ⟨d, 3, none⟩ (.bool false)).setCell ⟨d, 2, none⟩ (.int .i64 (-1))) := ((Step.refl [d] w).setCell (p := ⟨d, 3, none⟩) (.inl (by simp)) _).setCell (p := ⟨d, 2, none⟩) (.inl (by simp)) _
 have hb1 := (HD.out.1.blk.set 3 (.bool false)).set 2 (.int .i64 (-1))
 have h11 := HD.out.1.head (room' := s.room) (fuse' := -1) (off' := false) hk1 (by simpa using hb1)
 obtain ⟨w1, hw1⟩ : ∃ w1, w1 = (w.setCell ⟨d, 3, none⟩ (.bool false)).setCell ⟨d, 2, none⟩ (.int .i64 (-1)) := ⟨_, rfl⟩
 rw [← hw1] at hk1 hb1 h11 ⊢
 have hs1 : Step S S w w1 := hk1.wide (by intro k hk; simp only [List.mem_singleton] at hk; rw [hk, HD.out.1.hS]; simp) (by intro k hk; exact .inl hk)
 have H1 : Hid (Dk w1 S d ⟨s.E, s.room, -1, false⟩ ∧ Step S S w w1) := Lib.hid ⟨⟨m, L, h11, HD.out.2⟩, hs1⟩
 clear hw1 hk1 hb1 h11 hs1 c2 c3 f2 f3 fl
 go_wp2_with fail
 refine (names_any w1 S d ⟨s.E, s.room, -1, false⟩ H1.out.1 ⟨HX.out.1.room, (by show -1 ≤ (-1 : Int) ∧ (-1 : Int) ≤ 9223372036854775807; omega), HX.out.1.used, HX.out.1.len⟩).mono ?_
 rintro e w2 ⟨a, cap, rfl, hrow, hst2⟩
 rw [show namesS ⟨s.E, s.room, -1, false⟩ = s.E.map En.n by simp [namesS]] at hrow ⊢
 rw [List.length_map] at hrow ⊢
 have H2 : Hid (CrR keep s S d w ka a cap 0 w2 ∧ ∀ g, g ∈ blks a → g ∉ S) := Lib.hid ⟨⟨by rw [crashU_zero]; exact H1.out.1.keep hst2, ((HX.out.2.1.stepP H1.out.2 HX.out.2.2.1)).step0 hst2, hrow, H1.out.2.trans ((hst2.drop (S'' := []) (by simp)).keep S)⟩, fun g hg hm => by
  rcases hst2.fresh g hg with h | h
  ·simp at h
  ·have := H1.out.1.lt g hm; omega⟩
 clear hrow hst2
 obtain ⟨N, hN⟩ : ∃ N, N = s.E.length := ⟨_, rfl⟩
 rw [← hN]
 have hNl : N ≤ 1099511627776 := by rw [hN]; exact HX.out.1.len
 have HN := Lib.hid hN
 clear hN
 go_wp2_with fail
 go_loopw [4, 20] (fun i v W => ∃ k : Nat, v = .int .i64 k ∧ k ≤ N ∧ i = .int .i64 (cntL (s.E.take k) : Nat) ∧ Hid (CrR keep s S d w ka a cap k W)) (fun _ v _ => N - (intOf v).toNat)
 case atStart => exact ⟨0, rfl, by omega, by simp [cntL], Lib.hid H2.out.1⟩
 case round =>
  rename World => W
  obtain ⟨k, rfl, hkN, rfl, HW⟩ := hrel
  by_cases hlt : k < N
  ·have hlt' : (k : Int) < N := by omega
   obtain ⟨x, hx⟩ : ∃ x, s.E[k]? = some x := ⟨_, List.getElem?_eq_getElem (by rw [← HN.out]; exact hlt)⟩
   obtain ⟨m2, L2, g1, g2⟩ := HW.out.1
   simp only at g2
   rw [crashU_at hx] at g2
   obtain ⟨A, f, B, rfl, hA, hf, hB⟩ := fil_at g2
   have hfm : f ∈ A ++ f :: B := by simp
   have hnm : x.n = f.n := by rw [← hf]; rfl
   have hrow := HW.out.2.2.1
   obtain ⟨g, off, hsa⟩ := hrow.some_of_pos (by rw [← HN.out]; omega)
   subst hsa
   have hrc := (hrow.cell rfl k (by rw [← HN.out]; omega)).1
   rw [List.getElem?_map, List.getElem?_map, hx] at hrc
   simp only [Option.map_some, hnm] at hrc
   have hgl := hrow.lt g (by simp [blks])
   have hfn : f.n.length ≤ 1099511627776 := by
    have := HX.out.2.2.2.2 x (List.mem_of_getElem? hx); rw [hnm] at this; exact this
   have hl := owns_look (t := 57) (e := 61) g1.own Tryz.underlying9 Tryz.underlying57 (Tryz.zeroValue61 W) f.n (by unfold maxLen; omega)
   rw [fget_mid g1.ris] at hl
   simp only at hl
   have c0 := g1.blk.cell 0
   have hfb := g1.fil f hfm
   have d0 := hfb.cell 0
   have d1 := hfb.cell 1
   simp only [List.getElem?_toArray, List.getElem?_cons_zero, List.getElem?_cons_succ] at c0 d0 d1
   have e0 := hfb.frozen 0
   have e1 := hfb.frozen 1
   have el := hfb.lt
   have HQ : Hid (Dkm W S d m2 (A ++ f :: B) s.room (-1) false ∧ A.map Fil.en = crashE keep 0 (s.E.take k) ∧ f.en = x ∧ B.map Fil.en = s.E.drop (k + 1) ∧ s.E[k]? = some x ∧ Blk W f.b 64 (flc f.d f.l)) := Lib.hid ⟨g1, hA, hf, hB, hx, hfb⟩
   have hful : f.d.length + f.l.length ≤ 8388608 := by
    have := used_mem (List.mem_of_getElem? hx)
    rw [← hf] at this
    have h2 := HX.out.1.used
    simp only [Fil.en] at this
    omega
   clear g1 g2 hx hA hf hB hnm hrow hfb hfm hfn
   obtain ⟨q0, hq0⟩ : ∃ q, q = cntL (s.E.take k) := ⟨_, rfl⟩
   have hq1 : q0 ≤ 1099511627776 := by
    have h3 := cntL_le (s.E.take k)
    rw [← hq0, List.length_take] at h3
    omega
   rw [← hq0]
   have HQ0 := Lib.hid hq0
   clear hq0
   have HKN : Hid (0 < keep.length → ∀ g, g ∈ blks ka → g ∉ S) := Lib.hid HX.out.2.2.1
   have HAN := Lib.hid H2.out.2
   by_cases hl0 : f.l = []
   ·rw [hl0] at d1
    have HL0 := Lib.hid hl0
    clear hl0
    go_wp2_with fail
    go_roundw
    case rel =>
     obtain ⟨z1, z2, z3, z4, z5, z6⟩ := HQ.out
     have hxl : x.l = [] := by rw [← z3]; exact HL0.out
     refine ⟨k + 1, by go_num, by omega, by rw [cnt_succ z5, if_pos hxl, ← HQ0.out], Lib.hid (HW.out.next HAN.out HKN.out z1 z2 z4 z5 (Step.refl _ _) z6 ?_)⟩
     rw [crashF, if_pos hxl, ← z3]
     rfl
    case measure => simp [intOf]; omega
   ·obtain ⟨c, r, hcr⟩ := List.exists_cons_of_ne_nil hl0
    rw [hcr] at d1 hful
    have HL0 := Lib.hid hcr
    clear hl0 hcr
    by_cases hk0 : keep.length = 0
    ·have HK0 := Lib.hid hk0
     have hk0' : (keep.length : Int) = 0 := by omega
     have hk0d : decide (0 < keep.length) = false := decide_eq_false (by omega)
     clear hk0
     go_wp2_with fail
     go_roundw
     case rel =>
      obtain ⟨z1, z2, z3, z4, z5, z6⟩ := HQ.out
      have hxl : ¬ x.l = [] := by rw [← z3]; show ¬ f.l = []; rw [HL0.out]; simp
      refine ⟨k + 1, by go_num, by omega, by rw [cnt_succ z5, if_neg hxl, ← HQ0.out]; go_num, Lib.hid (HW.out.next (d' := f.d) (l' := []) HAN.out HKN.out z1 z2 z4 z5 ((Step.refl [f.b] W).setCell (p := ⟨f.b, 1, none⟩) (.inl (by simp)) _) (by simpa using z6.set 1 (.string ⟨#[]⟩)) ?_)⟩
      rw [crashF, if_neg hxl, if_pos (List.eq_nil_of_length_eq_zero HK0.out), ← z3]
      rfl
     case measure => simp [intOf]; omega
    ·have hk0d : decide (0 < keep.length) = true := decide_eq_true (by omega)
     obtain ⟨J, hJ⟩ : ∃ J, J = q0 % keep.length := ⟨_, rfl⟩
     have hJl : J < keep.length := by rw [hJ]; exact Nat.mod_lt _ (by omega)
     have hJi : (J : Int) < (keep.length : Int) := by omega
     obtain ⟨kv, hkv⟩ : ∃ v, keep[J]? = some v := ⟨_, List.getElem?_eq_getElem hJl⟩
     have hrd := HW.out.2.1
     obtain ⟨g2, off2, hka⟩ := hrd.some_ (by omega)
     have hrd2 := hrd
     rw [hka] at hrd2
     have y0 := hrd2.cell g2 off2 none rfl J _ (by rw [List.getElem?_map, hkv]; rfl)
     have yl : g2 < W.heap.size := by have := World.block_lt_of_cell? _ _ y0; simpa using this
     have HKA := Lib.hid hka
     rw [hka]
     have hk1 : ¬ (keep.length : Int) = 0 := by omega
     have ht1 : (q0 : Int).tmod (keep.length : Int) = (J : Int) := by rw [hJ, Int.ofNat_tmod]
     obtain ⟨U, hU⟩ : ∃ U, U = (kv % 18446744073709551616).toNat := ⟨_, rfl⟩
     have hw1 : IntKind.u64.wrap kv = (U : Int) := by rw [hU]; simp [IntKind.wrap, IntKind.bits, IntKind.signed]; omega
     go_upto_region 9 with fail
     obtain ⟨lt, hlt9⟩ : ∃ lt, lt = c :: r := ⟨_, rfl⟩
     rw [← hlt9] at d1 hful HL0 ⊢
     obtain ⟨Q, hQ⟩ : ∃ Q, Q = U % (lt.length + 1) := ⟨_, rfl⟩
     have hQl : Q ≤ lt.length := by rw [hQ]; have := Nat.mod_lt U (show 0 < lt.length + 1 by omega); omega
     have hQi : (Q : Int) ≤ (lt.length : Int) := by omega
     have hw2 : IntKind.u64.wrap ((lt.length : Int) + 1) = (lt.length : Int) + 1 := IntWalk.u64_in _ (by omega)
     have ht2 : (U : Int).tmod ((lt.length : Int) + 1) = (Q : Int) := by
      rw [hQ]
      exact (Int.ofNat_tmod U (lt.length + 1)).symm
     have hn2 : ¬ (lt.length : Int) + 1 = 0 := by omega
     have HJ := Lib.hid (And.intro hJ (And.intro hkv (And.intro hU (And.intro hQ hlt9))))
     clear hk0 hJ hkv hrd hrd2 hU hQ hka hlt9
     refine wp_region_quiet_lit (by kernel_rfl) (by kernel_rfl) ?_
     repeat go_big_quiet_step (fail)
     refine wpQuiet_nil ?_
     intro W2 hw'
     obtain ⟨nq, hW⟩ := hw'
     have d0' := cell_drewN hW d0
     have d1' := cell_drewN hW d1
     have e0' := frozen_drewN hW e0
     have e1' := frozen_drewN hW e1
     have el' : f.b < W2.heap.size := by rw [hW]; exact el
     have HW2 := Lib.hid hW
     clear d0 d1 e0 e1 el hW y0 yl hw1 hw2 ht1 ht2 hn2 hk1 hrc hgl hl c0
     have d0 := HQ.out.2.2.2.2.2.step ((Step.refl [] W).drewN nq).drew (by simp)
     rw [← HW2.out, HL0.out] at d0
     have HFB := Lib.hid d0
     have c0 := d0.cell 0
     have c1 := d0.cell 1
     simp only [List.getElem?_toArray, List.getElem?_cons_zero, List.getElem?_cons_succ] at c0 c1
     have e0 := d0.frozen 0
     have e1 := d0.frozen 1
     have el := d0.lt
     obtain ⟨tk, htk⟩ : ∃ tk, lt.take Q = tk := ⟨_, rfl⟩
     have hcat : f.d.length + tk.length ≤ 9223372036854775807 := by rw [← htk, List.length_take]; omega
     clear d0
     go_upto_region 10 with fail
     refine still_tail 11 (by kernel_rfl) (by kernel_rfl) ?_
     simp only [List.take_succ_cons, List.take_zero, List.drop_succ_cons, List.drop_zero]
     repeat still_step
     refine wpStill_nil ?_
     go_wp2_with fail
     go_roundw
     case rel =>
      obtain ⟨z1, z2, z3, z4, z5, z6⟩ := HQ.out
      have hxl : ¬ x.l = [] := by rw [← z3]; show ¬ f.l = []; rw [HL0.out, HJ.out.2.2.2.2]; simp
      have hkk : Step [f.b] [f.b] W ((W2.setCell ⟨f.b, 0, none⟩ (Str (f.d ++ tk))).setCell ⟨f.b, 1, none⟩ (.string ⟨#[]⟩)).drew := by
       rw [HW2.out]
       exact ((((Step.refl [f.b] W).drewN nq).setCell (p := ⟨f.b, 0, none⟩) (.inl (by simp)) _).setCell (p := ⟨f.b, 1, none⟩) (.inl (by simp)) _).drew
      have hbb : Blk ((W2.setCell ⟨f.b, 0, none⟩ (Str (f.d ++ tk))).setCell ⟨f.b, 1, none⟩ (.string ⟨#[]⟩)).drew f.b 64 (flc (f.d ++ tk) []) := by
       have z7 := z6.step ((Step.refl [] W).drewN nq) (by simp)
       rw [← HW2.out] at z7
       have := ((z7.set 0 (Str (f.d ++ tk))).set 1 (.string ⟨#[]⟩)).drew
       simpa using this
      rw [← HKA.out]
      refine ⟨k + 1, by go_num, by omega, by rw [cnt_succ z5, if_neg hxl, ← HQ0.out]; go_num, Lib.hid (HW.out.next (d' := f.d ++ tk) (l' := []) HAN.out HKN.out z1 z2 z4 z5 hkk hbb ?_)⟩
      obtain ⟨y1, y2, y3, y4, y5⟩ := HJ.out
      have hkne : ¬ keep = [] := by rintro rfl; simp at hJl
      rw [crashF, if_neg hxl, if_neg hkne, ← z3, ← HQ0.out]
      show (⟨f.n, f.d ++ f.l.take (keepK keep q0 f.l.length), []⟩ : En) = _
      rw [HL0.out, ← htk, y4, y3, keepK, ← y1, List.getD_eq_getElem?_getD, y2]
      rfl
     case measure => simp [intOf]; omega
  ·have hnl : ¬ (k : Int) < N := by omega
   have hke : Hid (k = s.E.length) := Lib.hid (by rw [← HN.out]; omega)
   go_wp2_with fail
   refine bodyPost_end (results_none rfl _ _ _) rfl ⟨rfl, ?_, HW.out.2.2.2⟩
   have := HW.out.1
   rw [hke.out, crashU_all] at this
   exact this

end Go.Proofs.YtnkbphecabnnaaaGreatDoor
