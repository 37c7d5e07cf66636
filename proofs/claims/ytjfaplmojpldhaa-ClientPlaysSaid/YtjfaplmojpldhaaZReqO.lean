/-
 The reference's Clean: a flat form without the fields that its kind hasn't. Condition: at most 2^40 compares and acts.
-/
import Derived.Test.YtjfaplmojpldhaaZReqN
import Derived.Deep.DeepCutAuto
namespace Go.Proofs.Ytjfaplmojpldhaa
open Go.RowKit
set_option linter.unusedSimpArgs false
set_option linter.unusedVariables false
set_option maxRecDepth 100000

abbrev cmZ18 : Array Value := #[.int .i64 0, .int .i64 0, .string ⟨#[]⟩, .int .i64 0, .string ⟨#[]⟩, .string ⟨#[]⟩, .string ⟨#[]⟩, .string ⟨#[]⟩, .int .i64 0, .int .i64 0, .string ⟨#[]⟩, .string ⟨#[]⟩, .bool false, .bool false, .int .i64 0, .slice none 0 0, .slice none 0 0, .slice none 0 0]
/-- While Clean runs: the flat form that came in, the result, what is filled. -/
structure Cq (w W : World) (b : Nat) (y x : Cm) (v1 v2 v3 s1 s2 s3 : Value) : Prop where
 inp : Blk W b 44 (cmc y v1 v2 v3).toArray
 res : Blk W (b + 1) 44 cmZ18
 out : Blk W (b + 1 + 1) 44 (cmc x s1 s2 s3).toArray
 st : Step [] [] w W
 eq : b = w.heap.size
section
variable {w W W' : World} {b : Nat} {y x x' : Cm} {v1 v2 v3 s1 s2 s3 t1 t2 t3 : Value}
theorem Cq.quiet (h : Cq w W b y x v1 v2 v3 s1 s2 s3) (k : Step [] [] W W') : Cq w W' b y x v1 v2 v3 s1 s2 s3 :=
 ⟨h.inp.step k (by simp), h.res.step k (by simp), h.out.step k (by simp), h.st.trans k, h.eq⟩
theorem Cq.put (h : Cq w W b y x v1 v2 v3 s1 s2 s3) (k : Step [b + 1 + 1] [b + 1 + 1] W W') (g : Blk W' (b + 1 + 1) 44 (cmc x' t1 t2 t3).toArray) : Cq w W' b y x' v1 v2 v3 t1 t2 t3 :=
 ⟨h.inp.step k (by simp; omega), h.res.step k (by simp), g, h.st.out1' k (by have := h.eq; simp; omega), h.eq⟩
theorem Cq.hold {S' : List Nat} (h : Cq w W b y x v1 v2 v3 s1 s2 s3) (k : Step [] S' W W') : Cq w W' b y x v1 v2 v3 s1 s2 s3 :=
 ⟨h.inp.step k (by simp), h.res.step k (by simp), h.out.step k (by simp), (h.st.trans k).drop (by simp), h.eq⟩
theorem Cq.grown {o : Obj} {S' : List Nat} {W5 : World} (h : Cq w W b y x v1 v2 v3 s1 s2 s3) (k : Step [W.heap.size] S' (W.alloc o) W5) : Cq w W5 b y x v1 v2 v3 s1 s2 s3 ∧ (∀ j, j < W.heap.size → j ∉ S') ∧ b + 1 + 1 < W.heap.size := by
 have hne : ∀ j, j < W.heap.size → j ∉ [W.heap.size] := by intro j hj; simp; omega
 refine ⟨⟨(h.inp.alloc _).step k (hne _ h.inp.lt), (h.res.alloc _).step k (hne _ h.res.lt), (h.out.alloc _).step k (hne _ h.out.lt), (h.st.alloc _).out1' k (by have := h.st.size; simp; omega), h.eq⟩, fun j hj => k.notin (by simp; omega) (hne j hj), h.out.lt⟩
end
theorem row_own {w5 W2 : World} {sz n c b N : Nat} {a : Option Addr} {xs : List Value} (h : Row w5 sz a n c xs) (k : Step [b + 1 + 1] [b + 1 + 1] w5 W2) (hn : ∀ j, j < N → j ∉ blks a) (hb : b + 1 + 1 < N) : Rd W2 sz a n xs ∧ (∀ g ∈ blks a, g ≠ b + 1 + 1) ∧ (∀ g ∈ blks a, b + 1 + 1 < g) := by
 have h1 : ∀ g ∈ blks a, g ≠ b + 1 + 1 := fun g hg e => hn _ hb (e ▸ hg)
 refine ⟨h.rd.step k (fun g hg e => h1 g hg (by simpa using e)), h1, fun g hg => Nat.lt_of_lt_of_le hb (Nat.le_of_not_lt fun hl => hn g hl hg)⟩
theorem cmZ18_one : cmZ18.all (·.oneCell') = true := by simp [Value.oneCell']
theorem cmc_one (y : Cm) (s1 s2 s3 : Value) (h1 : s1.oneCell' = true) (h2 : s2.oneCell' = true) (h3 : s3.oneCell' = true) : (cmc y s1 s2 s3).toArray.all (·.oneCell') = true := by
 simp [cmc, Value.oneCell']
 exact ⟨h1, h2, h3⟩
def CleanF (y : Cm) (w : World) (e : Ending) (w' : World) : Prop := ∃ a1 c1 a2 c2 a3 c3, e = .returned (.tuple #[cmV (cleanC y) (.slice a1 (cleanC y).ifs.length c1) (.slice a2 (cleanC y).thens.length c2) (.slice a3 (cleanC y).elses.length c3), .bool (isK y.kind)]) ∧ RdC w' (cleanC y) a1 a2 a3 ∧ (∀ g, (g ∈ blks a1 ∨ g ∈ blks a2 ∨ g ∈ blks a3) → w.heap.size ≤ g) ∧ Step [] [] w w'
set_option maxHeartbeats 40000000 in
theorem clean_yes (y : Cm) (a1 a2 a3 : Option Addr) (c1 c2 c3 : Nat) (w : World) (hk : isK y.kind = true) (hr : RdC w y a1 a2 a3) (hl : LenC y) : Calls Try.prog 73 #[cmV y (.slice a1 y.ifs.length c1) (.slice a2 y.thens.length c2) (.slice a3 y.elses.length c3)] w (CleanF y w) := by
 have HR := Lib.hid hr
 have HLN := Lib.hid hl
 have HK := Lib.hid hk
 have k0 : (1 : Int) ≤ y.kind ∧ y.kind ≤ 14 := by simpa [isK] using hk
 obtain ⟨k1, k2⟩ := k0
 clear hr hl hk
 have A0 := blk3q w 44 44 44 (cmc y (.slice a1 y.ifs.length c1) (.slice a2 y.thens.length c2) (.slice a3 y.elses.length c3)).toArray cmZ18 cmZ18
 have A1 := (((Step.refl [] w).alloc (.cells (cmc y (.slice a1 y.ifs.length c1) (.slice a2 y.thens.length c2) (.slice a3 y.elses.length c3)).toArray 44)).alloc (.cells cmZ18 44)).alloc (.cells cmZ18 44)
 have HA := Lib.hid (And.intro A0 A1)
 clear A0 A1
 go_enter Try.func73, Try.ntmps73
 go_upto_region 4 with (refine wpList_storeRow (T := 44) (b := w.heap.size + 1 + 1) (T' := 44) (cs := cmZ18) (vs := (cmc (⟨y.client, y.seq, y.token, y.kind, [], [], [], [], 0, 0, [], [], false, false, 0, [], [], []⟩ : Cm) (.slice none 0 0) (.slice none 0 0) (.slice none 0 0)).toArray) rfl (.tmp 4) (.tmp 22) rfl rfl rfl Try.sCmd HA.out.1.2.2 rfl (cmc_one _ _ _ _ rfl rfl rfl) ?_; intro V vb ks)
 obtain ⟨b, hb⟩ : ∃ b, b = w.heap.size := ⟨_, rfl⟩
 have H0 : Hid (Cq w V b y (⟨y.client, y.seq, y.token, y.kind, [], [], [], [], 0, 0, [], [], false, false, 0, [], [], []⟩ : Cm) (.slice a1 y.ifs.length c1) (.slice a2 y.thens.length c2) (.slice a3 y.elses.length c3) (.slice none 0 0) (.slice none 0 0) (.slice none 0 0)) := Lib.hid (by rw [hb]; exact ⟨HA.out.1.1.step ks (by simp; omega), HA.out.1.2.1.step ks (by simp), vb, HA.out.2.out1' ks (by simp; omega), rfl⟩)
 rw [← hb]
 clear hb HA vb ks k1 k2
 have kc := H0.out.inp.cell
 have k3 := kc 3
 clear kc
 simp only [cmc, List.getElem?_toArray, List.getElem?_cons_zero, List.getElem?_cons_succ] at k3
 have kl := H0.out.inp.lt
 go_wp2_with fail
 refine (hasN_call y.kind _ HK.out).mono ?_
 rintro e X0 ⟨rfl, q0⟩
 have G0 := Lib.hid (H0.out.quiet q0)
 clear q0 k3 kl H0
 go_upto_if 25 with fail
 go_cut [] (fun wx => Hid (Cq w wx b y (⟨y.client, y.seq, y.token, y.kind, (if (hasN y.kind) = true then y.name else []), [], [], [], 0, 0, [], [], false, false, 0, [], [], []⟩ : Cm) (.slice a1 y.ifs.length c1) (.slice a2 y.thens.length c2) (.slice a3 y.elses.length c3) (.slice none 0 0) (.slice none 0 0) (.slice none 0 0)))
 case first =>
  as_aux_lemma =>
   cases hN : (hasN y.kind) with
   | false =>
    have HN := Lib.hid hN
    clear hN
    go_wp2_with fail
    go_meet
    rw [HN.out]
    exact G0
   | true =>
    have HN := Lib.hid hN
    clear hN
    have pc := G0.out.inp.cell
    have p4 := pc 4
    clear pc
    simp only [cmc, List.getElem?_toArray, List.getElem?_cons_zero, List.getElem?_cons_succ] at p4
    have pl := G0.out.inp.lt
    have rc := G0.out.out.cell
    have r4 := rc 4
    clear rc
    simp only [cmc, List.getElem?_toArray, List.getElem?_cons_zero, List.getElem?_cons_succ] at r4
    have rl := G0.out.out.lt
    have rfz := G0.out.out.frozen
    have rf4 := rfz 4
    clear rfz
    go_wp2_with fail
    go_meet
    rw [HN.out]
    exact Lib.hid (G0.out.put ((Step.refl [b + 1 + 1] X0).setCell (.inl (by simp)) _) (by have hq := (G0.out.out.set 4 (Str y.name)); simpa [cmc] using hq))
 case rest =>
  rename World => V0
  clear G0
  have H1 : Hid (Cq w V0 b y (⟨y.client, y.seq, y.token, y.kind, (if (hasN y.kind) = true then y.name else []), [], [], [], 0, 0, [], [], false, false, 0, [], [], []⟩ : Cm) (.slice a1 y.ifs.length c1) (.slice a2 y.thens.length c2) (.slice a3 y.elses.length c3) (.slice none 0 0) (.slice none 0 0) (.slice none 0 0)) := hcut
  clear hcut
  have kc := H1.out.inp.cell
  have k3 := kc 3
  clear kc
  simp only [cmc, List.getElem?_toArray, List.getElem?_cons_zero, List.getElem?_cons_succ] at k3
  have kl := H1.out.inp.lt
  go_wp2_with fail
  refine (hasO_call y.kind _ HK.out).mono ?_
  rintro e X1 ⟨rfl, q1⟩
  have G1 := Lib.hid (H1.out.quiet q1)
  clear q1 k3 kl H1
  go_upto_if 31 with fail
  go_cut [] (fun wx => Hid (Cq w wx b y (⟨y.client, y.seq, y.token, y.kind, (if (hasN y.kind) = true then y.name else []), (if (hasO y.kind) = true then y.other else []), [], [], 0, 0, [], [], false, false, 0, [], [], []⟩ : Cm) (.slice a1 y.ifs.length c1) (.slice a2 y.thens.length c2) (.slice a3 y.elses.length c3) (.slice none 0 0) (.slice none 0 0) (.slice none 0 0)))
  case first =>
   as_aux_lemma =>
    cases hN : (hasO y.kind) with
    | false =>
     have HN := Lib.hid hN
     clear hN
     go_wp2_with fail
     go_meet
     rw [HN.out]
     exact G1
    | true =>
     have HN := Lib.hid hN
     clear hN
     have pc := G1.out.inp.cell
     have p5 := pc 5
     clear pc
     simp only [cmc, List.getElem?_toArray, List.getElem?_cons_zero, List.getElem?_cons_succ] at p5
     have pl := G1.out.inp.lt
     have rc := G1.out.out.cell
     have r5 := rc 5
     clear rc
     simp only [cmc, List.getElem?_toArray, List.getElem?_cons_zero, List.getElem?_cons_succ] at r5
     have rl := G1.out.out.lt
     have rfz := G1.out.out.frozen
     have rf5 := rfz 5
     clear rfz
     go_wp2_with fail
     go_meet
     rw [HN.out]
     exact Lib.hid (G1.out.put ((Step.refl [b + 1 + 1] X1).setCell (.inl (by simp)) _) (by have hq := (G1.out.out.set 5 (Str y.other)); simpa [cmc] using hq))
  case rest =>
   rename World => V1
   clear G1
   have H2 : Hid (Cq w V1 b y (⟨y.client, y.seq, y.token, y.kind, (if (hasN y.kind) = true then y.name else []), (if (hasO y.kind) = true then y.other else []), [], [], 0, 0, [], [], false, false, 0, [], [], []⟩ : Cm) (.slice a1 y.ifs.length c1) (.slice a2 y.thens.length c2) (.slice a3 y.elses.length c3) (.slice none 0 0) (.slice none 0 0) (.slice none 0 0)) := hcut
   clear hcut
   have kc := H2.out.inp.cell
   have k3 := kc 3
   clear kc
   simp only [cmc, List.getElem?_toArray, List.getElem?_cons_zero, List.getElem?_cons_succ] at k3
   have kl := H2.out.inp.lt
   go_wp2_with fail
   refine (hasW_call y.kind _ HK.out).mono ?_
   rintro e X2 ⟨rfl, q2⟩
   have G2 := Lib.hid (H2.out.quiet q2)
   clear q2 k3 kl H2
   go_upto_if 37 with fail
   go_cut [] (fun wx => Hid (Cq w wx b y (⟨y.client, y.seq, y.token, y.kind, (if (hasN y.kind) = true then y.name else []), (if (hasO y.kind) = true then y.other else []), (if (hasW y.kind) = true then y.word else []), [], 0, 0, [], [], false, false, 0, [], [], []⟩ : Cm) (.slice a1 y.ifs.length c1) (.slice a2 y.thens.length c2) (.slice a3 y.elses.length c3) (.slice none 0 0) (.slice none 0 0) (.slice none 0 0)))
   case first =>
    as_aux_lemma =>
     cases hN : (hasW y.kind) with
     | false =>
      have HN := Lib.hid hN
      clear hN
      go_wp2_with fail
      go_meet
      rw [HN.out]
      exact G2
     | true =>
      have HN := Lib.hid hN
      clear hN
      have pc := G2.out.inp.cell
      have p6 := pc 6
      clear pc
      simp only [cmc, List.getElem?_toArray, List.getElem?_cons_zero, List.getElem?_cons_succ] at p6
      have pl := G2.out.inp.lt
      have rc := G2.out.out.cell
      have r6 := rc 6
      clear rc
      simp only [cmc, List.getElem?_toArray, List.getElem?_cons_zero, List.getElem?_cons_succ] at r6
      have rl := G2.out.out.lt
      have rfz := G2.out.out.frozen
      have rf6 := rfz 6
      clear rfz
      go_wp2_with fail
      go_meet
      rw [HN.out]
      exact Lib.hid (G2.out.put ((Step.refl [b + 1 + 1] X2).setCell (.inl (by simp)) _) (by have hq := (G2.out.out.set 6 (Str y.word)); simpa [cmc] using hq))
   case rest =>
    rename World => V2
    clear G2
    have H3 : Hid (Cq w V2 b y (⟨y.client, y.seq, y.token, y.kind, (if (hasN y.kind) = true then y.name else []), (if (hasO y.kind) = true then y.other else []), (if (hasW y.kind) = true then y.word else []), [], 0, 0, [], [], false, false, 0, [], [], []⟩ : Cm) (.slice a1 y.ifs.length c1) (.slice a2 y.thens.length c2) (.slice a3 y.elses.length c3) (.slice none 0 0) (.slice none 0 0) (.slice none 0 0)) := hcut
    clear hcut
    have kc := H3.out.inp.cell
    have k3 := kc 3
    clear kc
    simp only [cmc, List.getElem?_toArray, List.getElem?_cons_zero, List.getElem?_cons_succ] at k3
    have kl := H3.out.inp.lt
    go_wp2_with fail
    refine (hasS_call y.kind _ HK.out).mono ?_
    rintro e X3 ⟨rfl, q3⟩
    have G3 := Lib.hid (H3.out.quiet q3)
    clear q3 k3 kl H3
    go_upto_if 43 with fail
    go_cut [] (fun wx => Hid (Cq w wx b y (⟨y.client, y.seq, y.token, y.kind, (if (hasN y.kind) = true then y.name else []), (if (hasO y.kind) = true then y.other else []), (if (hasW y.kind) = true then y.word else []), (if (hasS y.kind) = true then y.salt else []), 0, 0, [], [], false, false, 0, [], [], []⟩ : Cm) (.slice a1 y.ifs.length c1) (.slice a2 y.thens.length c2) (.slice a3 y.elses.length c3) (.slice none 0 0) (.slice none 0 0) (.slice none 0 0)))
    case first =>
     as_aux_lemma =>
      cases hN : (hasS y.kind) with
      | false =>
       have HN := Lib.hid hN
       clear hN
       go_wp2_with fail
       go_meet
       rw [HN.out]
       exact G3
      | true =>
       have HN := Lib.hid hN
       clear hN
       have pc := G3.out.inp.cell
       have p7 := pc 7
       clear pc
       simp only [cmc, List.getElem?_toArray, List.getElem?_cons_zero, List.getElem?_cons_succ] at p7
       have pl := G3.out.inp.lt
       have rc := G3.out.out.cell
       have r7 := rc 7
       clear rc
       simp only [cmc, List.getElem?_toArray, List.getElem?_cons_zero, List.getElem?_cons_succ] at r7
       have rl := G3.out.out.lt
       have rfz := G3.out.out.frozen
       have rf7 := rfz 7
       clear rfz
       go_wp2_with fail
       go_meet
       rw [HN.out]
       exact Lib.hid (G3.out.put ((Step.refl [b + 1 + 1] X3).setCell (.inl (by simp)) _) (by have hq := (G3.out.out.set 7 (Str y.salt)); simpa [cmc] using hq))
    case rest =>
     rename World => V3
     clear G3
     have H4 : Hid (Cq w V3 b y (⟨y.client, y.seq, y.token, y.kind, (if (hasN y.kind) = true then y.name else []), (if (hasO y.kind) = true then y.other else []), (if (hasW y.kind) = true then y.word else []), (if (hasS y.kind) = true then y.salt else []), 0, 0, [], [], false, false, 0, [], [], []⟩ : Cm) (.slice a1 y.ifs.length c1) (.slice a2 y.thens.length c2) (.slice a3 y.elses.length c3) (.slice none 0 0) (.slice none 0 0) (.slice none 0 0)) := hcut
     clear hcut
     have kc := H4.out.inp.cell
     have k3 := kc 3
     clear kc
     simp only [cmc, List.getElem?_toArray, List.getElem?_cons_zero, List.getElem?_cons_succ] at k3
     have kl := H4.out.inp.lt
     go_wp2_with fail
     refine (hasQ_call y.kind _ HK.out).mono ?_
     rintro e X4 ⟨rfl, q4⟩
     have G4 := Lib.hid (H4.out.quiet q4)
     clear q4 k3 kl H4
     go_upto_if 49 with fail
     go_cut [] (fun wx => Hid (Cq w wx b y (⟨y.client, y.seq, y.token, y.kind, (if (hasN y.kind) = true then y.name else []), (if (hasO y.kind) = true then y.other else []), (if (hasW y.kind) = true then y.word else []), (if (hasS y.kind) = true then y.salt else []), (if (hasQ y.kind) = true then y.bytes else 0), (if (hasQ y.kind) = true then y.keys else 0), [], [], false, false, 0, [], [], []⟩ : Cm) (.slice a1 y.ifs.length c1) (.slice a2 y.thens.length c2) (.slice a3 y.elses.length c3) (.slice none 0 0) (.slice none 0 0) (.slice none 0 0)))
     case first =>
      as_aux_lemma =>
       cases hN : (hasQ y.kind) with
       | false =>
        have HN := Lib.hid hN
        clear hN
        go_wp2_with fail
        go_meet
        rw [HN.out]
        exact G4
       | true =>
        have HN := Lib.hid hN
        clear hN
        go_upto_region 13 with fail
        have rc := G4.out.out.cell
        have r8 := rc 8
        have r9 := rc 9
        clear rc
        simp only [cmc, List.getElem?_toArray, List.getElem?_cons_zero, List.getElem?_cons_succ] at r8 r9
        have rl := G4.out.out.lt
        have rfz := G4.out.out.frozen
        have rf8 := rfz 8
        have rf9 := rfz 9
        clear rfz
        refine wp_region_held_drew (S := fun V => Hid (Blk V b 44 (cmc y (.slice a1 y.ifs.length c1) (.slice a2 y.thens.length c2) (.slice a3 y.elses.length c3)).toArray)) (by kernel_rfl) (Lib.hid G4.out.inp.drew) (fun hHeld => ?_)
        refine wpAnyH_take (i := 0) (v := ?_) rfl (by kernel_rfl) (by kernel_rfl) (by kernel_rfl) (fun _ _ _ h => h) (Or.inl ⟨by rfl, ?_⟩) hHeld ?_
        rotate_left
        ·intro w hSw1
         try dsimp only at hSw1
         go_simp
         try (with_reducible rfl)
        try simp only [Act.put, LsA, LsB, LsC, LsD, LsE, LsF]
        refine wpAnyH_take (i := 1) (v := ?_) rfl (by kernel_rfl) (by kernel_rfl) (by kernel_rfl) (fun _ _ _ h => h) (Or.inl ⟨by rfl, ?_⟩) hHeld ?_
        rotate_left
        ·intro w hSw1
         have tc := hSw1.out.cell
         have t8 := tc 8
         have t9 := tc 9
         clear tc
         simp only [cmc, List.getElem?_toArray, List.getElem?_cons_zero, List.getElem?_cons_succ] at t8 t9
         have tl := hSw1.out.lt
         go_simp
         try (with_reducible rfl)
        try simp only [Act.put, LsA, LsB, LsC, LsD, LsE, LsF]
        refine wpAnyH_take (i := 2) (v := ?_) rfl (by kernel_rfl) (by kernel_rfl) (by kernel_rfl) (fun _ _ _ h => h) (Or.inl ⟨by rfl, ?_⟩) hHeld ?_
        rotate_left
        ·intro w hSw1
         try dsimp only at hSw1
         go_simp
         try (with_reducible rfl)
        try simp only [Act.put, LsA, LsB, LsC, LsD, LsE, LsF]
        refine wpAnyH_take (i := 3) (v := ?_) rfl (by kernel_rfl) (by kernel_rfl) (by kernel_rfl) (fun _ _ _ h => h) (Or.inl ⟨by rfl, ?_⟩) hHeld ?_
        rotate_left
        ·intro w hSw1
         have tc := hSw1.out.cell
         have t8 := tc 8
         have t9 := tc 9
         clear tc
         simp only [cmc, List.getElem?_toArray, List.getElem?_cons_zero, List.getElem?_cons_succ] at t8 t9
         have tl := hSw1.out.lt
         go_simp
         try (with_reducible rfl)
        try simp only [Act.put, LsA, LsB, LsC, LsD, LsE, LsF]
        refine wpAnyH_take (i := 4) (v := ?_) rfl (by kernel_rfl) (by kernel_rfl) (by kernel_rfl) (fun _ _ _ h => h) (Or.inl ⟨by rfl, ?_⟩) hHeld ?_
        rotate_left
        ·intro w hSw1
         try dsimp only at hSw1
         go_simp
         try (with_reducible rfl)
        try simp only [Act.put, LsA, LsB, LsC, LsD, LsE, LsF]
        refine wpAnyH_ready (rs := [5]) (by kernel_rfl) (by simp) ?_
        refine AllReadyH.cons rfl (fun K hK => ?_) AllReadyH.nil
        go_simp
        skip
        go_wp2_with fail
        refine hK.out _ _ (Lib.hid (Blk.far (p := ⟨b + 1 + 1, 8, none⟩) hHeld.out (by simp; omega) _)) (fun hHeld2 => ?_)
        clear hK K hHeld
        try simp only [Act.put, LsA, LsB, LsC, LsD, LsE, LsF]
        refine wpAnyH_take (i := 6) (v := ?_) rfl (by kernel_rfl) (by kernel_rfl) (by kernel_rfl) (fun _ _ _ h => h) (Or.inl ⟨by rfl, ?_⟩) hHeld2 ?_
        rotate_left
        ·intro w hSw1
         try dsimp only at hSw1
         go_simp
         try (with_reducible rfl)
        try simp only [Act.put, LsA, LsB, LsC, LsD, LsE, LsF]
        refine wpAnyH_ready (rs := [7]) (by kernel_rfl) (by simp) ?_
        refine AllReadyH.cons rfl (fun K hK => ?_) AllReadyH.nil
        go_simp
        skip
        go_wp2_with fail
        refine hK.out _ _ (Lib.hid (Blk.far (p := ⟨b + 1 + 1, 9, none⟩) hHeld2.out (by simp; omega) _)) (fun hHeld3 => ?_)
        clear hK K hHeld2
        try simp only [Act.put, LsA, LsB, LsC, LsD, LsE, LsF]
        refine wpAnyH_done (by kernel_rfl) ?_ _
        go_wp2_with fail
        go_meet
        rw [HN.out]
        exact Lib.hid (G4.out.put (((Step.refl [b + 1 + 1] X4).setCell (.inl (by simp)) _).setCell (.inl (by simp)) _).drew (by have hq := ((G4.out.out.set 8 (.int .i64 y.bytes)).set 9 (.int .i64 y.keys)).drew; simpa [cmc] using hq))
     case rest =>
      rename World => V4
      clear G4
      have H5 : Hid (Cq w V4 b y (⟨y.client, y.seq, y.token, y.kind, (if (hasN y.kind) = true then y.name else []), (if (hasO y.kind) = true then y.other else []), (if (hasW y.kind) = true then y.word else []), (if (hasS y.kind) = true then y.salt else []), (if (hasQ y.kind) = true then y.bytes else 0), (if (hasQ y.kind) = true then y.keys else 0), [], [], false, false, 0, [], [], []⟩ : Cm) (.slice a1 y.ifs.length c1) (.slice a2 y.thens.length c2) (.slice a3 y.elses.length c3) (.slice none 0 0) (.slice none 0 0) (.slice none 0 0)) := hcut
      clear hcut
      have kc := H5.out.inp.cell
      have k3 := kc 3
      clear kc
      simp only [cmc, List.getElem?_toArray, List.getElem?_cons_zero, List.getElem?_cons_succ] at k3
      have kl := H5.out.inp.lt
      go_wp2_with fail
      refine (hasG_call y.kind _ HK.out).mono ?_
      rintro e X5 ⟨rfl, q5⟩
      have G5 := Lib.hid (H5.out.quiet q5)
      clear q5 k3 kl H5
      go_upto_if 58 with fail
      go_cut [] (fun wx => Hid (Cq w wx b y (⟨y.client, y.seq, y.token, y.kind, (if (hasN y.kind) = true then y.name else []), (if (hasO y.kind) = true then y.other else []), (if (hasW y.kind) = true then y.word else []), (if (hasS y.kind) = true then y.salt else []), (if (hasQ y.kind) = true then y.bytes else 0), (if (hasQ y.kind) = true then y.keys else 0), (if (hasG y.kind) = true then y.gf else []), (if (hasG y.kind) = true then y.gt else []), (if (hasG y.kind) = true then y.gr else false), (if (hasG y.kind) = true then y.gw else false), 0, [], [], []⟩ : Cm) (.slice a1 y.ifs.length c1) (.slice a2 y.thens.length c2) (.slice a3 y.elses.length c3) (.slice none 0 0) (.slice none 0 0) (.slice none 0 0)))
      case first =>
       as_aux_lemma =>
        cases hN : (hasG y.kind) with
        | false =>
         have HN := Lib.hid hN
         clear hN
         go_wp2_with fail
         go_meet
         rw [HN.out]
         exact G5
        | true =>
         have HN := Lib.hid hN
         clear hN
         have pc := G5.out.inp.cell
         have p10 := pc 10
         have p11 := pc 11
         have p12 := pc 12
         have p13 := pc 13
         clear pc
         simp only [cmc, List.getElem?_toArray, List.getElem?_cons_zero, List.getElem?_cons_succ] at p10 p11 p12 p13
         have pl := G5.out.inp.lt
         have rc := G5.out.out.cell
         have r10 := rc 10
         have r11 := rc 11
         have r12 := rc 12
         have r13 := rc 13
         clear rc
         simp only [cmc, List.getElem?_toArray, List.getElem?_cons_zero, List.getElem?_cons_succ] at r10 r11 r12 r13
         have rl := G5.out.out.lt
         have rfz := G5.out.out.frozen
         have rf10 := rfz 10
         have rf11 := rfz 11
         have rf12 := rfz 12
         have rf13 := rfz 13
         clear rfz
         go_wp2_with fail
         go_meet
         rw [HN.out]
         exact Lib.hid (G5.out.put (((((Step.refl [b + 1 + 1] X5).setCell (.inl (by simp)) _).setCell (.inl (by simp)) _).setCell (.inl (by simp)) _).setCell (.inl (by simp)) _) (by have hq := ((((G5.out.out.set 10 (Str y.gf)).set 11 (Str y.gt)).set 12 (.bool y.gr)).set 13 (.bool y.gw)); simpa [cmc] using hq))
      case rest =>
       rename World => V5
       clear G5
       have H6 : Hid (Cq w V5 b y (⟨y.client, y.seq, y.token, y.kind, (if (hasN y.kind) = true then y.name else []), (if (hasO y.kind) = true then y.other else []), (if (hasW y.kind) = true then y.word else []), (if (hasS y.kind) = true then y.salt else []), (if (hasQ y.kind) = true then y.bytes else 0), (if (hasQ y.kind) = true then y.keys else 0), (if (hasG y.kind) = true then y.gf else []), (if (hasG y.kind) = true then y.gt else []), (if (hasG y.kind) = true then y.gr else false), (if (hasG y.kind) = true then y.gw else false), 0, [], [], []⟩ : Cm) (.slice a1 y.ifs.length c1) (.slice a2 y.thens.length c2) (.slice a3 y.elses.length c3) (.slice none 0 0) (.slice none 0 0) (.slice none 0 0)) := hcut
       clear hcut
       have kc := H6.out.inp.cell
       have k3 := kc 3
       clear kc
       simp only [cmc, List.getElem?_toArray, List.getElem?_cons_zero, List.getElem?_cons_succ] at k3
       have kl := H6.out.inp.lt
       go_wp2_with fail
       refine (hasP_call y.kind _ HK.out).mono ?_
       rintro e X6 ⟨rfl, q6⟩
       have G6 := Lib.hid (H6.out.quiet q6)
       clear q6 k3 kl H6
       go_upto_if 64 with fail
       go_cut [] (fun wx => Hid (Cq w wx b y (⟨y.client, y.seq, y.token, y.kind, (if (hasN y.kind) = true then y.name else []), (if (hasO y.kind) = true then y.other else []), (if (hasW y.kind) = true then y.word else []), (if (hasS y.kind) = true then y.salt else []), (if (hasQ y.kind) = true then y.bytes else 0), (if (hasQ y.kind) = true then y.keys else 0), (if (decide (y.kind = 12)) = true then y.gf else (if (hasG y.kind) = true then y.gf else [])), (if (decide (y.kind = 12)) = true then y.gt else (if (hasG y.kind) = true then y.gt else [])), (if (hasG y.kind) = true then y.gr else false), (if (hasG y.kind) = true then y.gw else false), 0, [], [], []⟩ : Cm) (.slice a1 y.ifs.length c1) (.slice a2 y.thens.length c2) (.slice a3 y.elses.length c3) (.slice none 0 0) (.slice none 0 0) (.slice none 0 0)))
       case first =>
        as_aux_lemma =>
         cases hN : (decide (y.kind = 12)) with
         | false =>
          have HN := Lib.hid hN
          clear hN
          go_wp2_with fail
          go_meet
          rw [HN.out]
          exact G6
         | true =>
          have HN := Lib.hid hN
          clear hN
          have pc := G6.out.inp.cell
          have p10 := pc 10
          have p11 := pc 11
          clear pc
          simp only [cmc, List.getElem?_toArray, List.getElem?_cons_zero, List.getElem?_cons_succ] at p10 p11
          have pl := G6.out.inp.lt
          have rc := G6.out.out.cell
          have r10 := rc 10
          have r11 := rc 11
          clear rc
          simp only [cmc, List.getElem?_toArray, List.getElem?_cons_zero, List.getElem?_cons_succ] at r10 r11
          have rl := G6.out.out.lt
          have rfz := G6.out.out.frozen
          have rf10 := rfz 10
          have rf11 := rfz 11
          clear rfz
          go_wp2_with fail
          go_meet
          rw [HN.out]
          exact Lib.hid (G6.out.put (((Step.refl [b + 1 + 1] X6).setCell (.inl (by simp)) _).setCell (.inl (by simp)) _) (by have hq := ((G6.out.out.set 10 (Str y.gf)).set 11 (Str y.gt)); simpa [cmc] using hq))
       case rest =>
        rename World => V6
        clear G6
        have H7 : Hid (Cq w V6 b y (⟨y.client, y.seq, y.token, y.kind, (if (hasN y.kind) = true then y.name else []), (if (hasO y.kind) = true then y.other else []), (if (hasW y.kind) = true then y.word else []), (if (hasS y.kind) = true then y.salt else []), (if (hasQ y.kind) = true then y.bytes else 0), (if (hasQ y.kind) = true then y.keys else 0), (if (decide (y.kind = 12)) = true then y.gf else (if (hasG y.kind) = true then y.gf else [])), (if (decide (y.kind = 12)) = true then y.gt else (if (hasG y.kind) = true then y.gt else [])), (if (hasG y.kind) = true then y.gr else false), (if (hasG y.kind) = true then y.gw else false), 0, [], [], []⟩ : Cm) (.slice a1 y.ifs.length c1) (.slice a2 y.thens.length c2) (.slice a3 y.elses.length c3) (.slice none 0 0) (.slice none 0 0) (.slice none 0 0)) := hcut
        clear hcut
        have kc := H7.out.inp.cell
        have k3 := kc 3
        clear kc
        simp only [cmc, List.getElem?_toArray, List.getElem?_cons_zero, List.getElem?_cons_succ] at k3
        have kl := H7.out.inp.lt
        go_wp2_with fail
        refine (hasR_call y.kind _ HK.out).mono ?_
        rintro e X7 ⟨rfl, q7⟩
        have G7 := Lib.hid (H7.out.quiet q7)
        clear q7 k3 kl H7
        go_upto_if 72 with fail
        go_cut [] (fun wx => Hid (Cq w wx b y (⟨y.client, y.seq, y.token, y.kind, (if (hasN y.kind) = true then y.name else []), (if (hasO y.kind) = true then y.other else []), (if (hasW y.kind) = true then y.word else []), (if (hasS y.kind) = true then y.salt else []), (if (hasQ y.kind) = true then y.bytes else 0), (if (hasQ y.kind) = true then y.keys else 0), (if (decide (y.kind = 12)) = true then y.gf else (if (hasG y.kind) = true then y.gf else [])), (if (decide (y.kind = 12)) = true then y.gt else (if (hasG y.kind) = true then y.gt else [])), (if (hasG y.kind) = true then y.gr else false), (if (hasG y.kind) = true then y.gw else false), (if (hasR y.kind) = true then y.rev else 0), [], [], []⟩ : Cm) (.slice a1 y.ifs.length c1) (.slice a2 y.thens.length c2) (.slice a3 y.elses.length c3) (.slice none 0 0) (.slice none 0 0) (.slice none 0 0)))
        case first =>
         as_aux_lemma =>
          cases hN : (hasR y.kind) with
          | false =>
           have HN := Lib.hid hN
           clear hN
           go_wp2_with fail
           go_meet
           rw [HN.out]
           exact G7
          | true =>
           have HN := Lib.hid hN
           clear hN
           have pc := G7.out.inp.cell
           have p14 := pc 14
           clear pc
           simp only [cmc, List.getElem?_toArray, List.getElem?_cons_zero, List.getElem?_cons_succ] at p14
           have pl := G7.out.inp.lt
           have rc := G7.out.out.cell
           have r14 := rc 14
           clear rc
           simp only [cmc, List.getElem?_toArray, List.getElem?_cons_zero, List.getElem?_cons_succ] at r14
           have rl := G7.out.out.lt
           have rfz := G7.out.out.frozen
           have rf14 := rfz 14
           clear rfz
           go_wp2_with fail
           go_meet
           rw [HN.out]
           exact Lib.hid (G7.out.put ((Step.refl [b + 1 + 1] X7).setCell (.inl (by simp)) _) (by have hq := (G7.out.out.set 14 (.int .i64 y.rev)); simpa [cmc] using hq))
        case rest =>
         rename World => V7
         clear G7
         have H8 : Hid (Cq w V7 b y (⟨y.client, y.seq, y.token, y.kind, (if (hasN y.kind) = true then y.name else []), (if (hasO y.kind) = true then y.other else []), (if (hasW y.kind) = true then y.word else []), (if (hasS y.kind) = true then y.salt else []), (if (hasQ y.kind) = true then y.bytes else 0), (if (hasQ y.kind) = true then y.keys else 0), (if (decide (y.kind = 12)) = true then y.gf else (if (hasG y.kind) = true then y.gf else [])), (if (decide (y.kind = 12)) = true then y.gt else (if (hasG y.kind) = true then y.gt else [])), (if (hasG y.kind) = true then y.gr else false), (if (hasG y.kind) = true then y.gw else false), (if (hasR y.kind) = true then y.rev else 0), [], [], []⟩ : Cm) (.slice a1 y.ifs.length c1) (.slice a2 y.thens.length c2) (.slice a3 y.elses.length c3) (.slice none 0 0) (.slice none 0 0) (.slice none 0 0)) := hcut
         clear hcut
         have kc := H8.out.inp.cell
         have k3 := kc 3
         clear kc
         simp only [cmc, List.getElem?_toArray, List.getElem?_cons_zero, List.getElem?_cons_succ] at k3
         have kl := H8.out.inp.lt
         go_wp2_with fail
         refine (hasT_call y.kind _ HK.out).mono ?_
         rintro e X8 ⟨rfl, q8⟩
         have G8 := Lib.hid (H8.out.quiet q8)
         clear q8 k3 kl H8
         go_upto_if 78 with fail
         go_cut [] (fun wx => Hid (∃ x d1 e1 d2 e2 d3 e3, x = (if (hasT y.kind) = true then (⟨y.client, y.seq, y.token, y.kind, (if (hasN y.kind) = true then y.name else []), (if (hasO y.kind) = true then y.other else []), (if (hasW y.kind) = true then y.word else []), (if (hasS y.kind) = true then y.salt else []), (if (hasQ y.kind) = true then y.bytes else 0), (if (hasQ y.kind) = true then y.keys else 0), (if (decide (y.kind = 12)) = true then y.gf else (if (hasG y.kind) = true then y.gf else [])), (if (decide (y.kind = 12)) = true then y.gt else (if (hasG y.kind) = true then y.gt else [])), (if (hasG y.kind) = true then y.gr else false), (if (hasG y.kind) = true then y.gw else false), (if (hasR y.kind) = true then y.rev else 0), y.ifs, y.thens.map actL, y.elses.map actL⟩ : Cm) else (⟨y.client, y.seq, y.token, y.kind, (if (hasN y.kind) = true then y.name else []), (if (hasO y.kind) = true then y.other else []), (if (hasW y.kind) = true then y.word else []), (if (hasS y.kind) = true then y.salt else []), (if (hasQ y.kind) = true then y.bytes else 0), (if (hasQ y.kind) = true then y.keys else 0), (if (decide (y.kind = 12)) = true then y.gf else (if (hasG y.kind) = true then y.gf else [])), (if (decide (y.kind = 12)) = true then y.gt else (if (hasG y.kind) = true then y.gt else [])), (if (hasG y.kind) = true then y.gr else false), (if (hasG y.kind) = true then y.gw else false), (if (hasR y.kind) = true then y.rev else 0), [], [], []⟩ : Cm)) ∧ Cq w wx b y x (.slice a1 y.ifs.length c1) (.slice a2 y.thens.length c2) (.slice a3 y.elses.length c3) (.slice d1 x.ifs.length e1) (.slice d2 x.thens.length e2) (.slice d3 x.elses.length e3) ∧ RdC wx x d1 d2 d3 ∧ (∀ g, (g ∈ blks d1 ∨ g ∈ blks d2 ∨ g ∈ blks d3) → b + 1 + 1 < g)))
         case first =>
          as_aux_lemma =>
           cases hN : (hasT y.kind) with
           | false =>
            have HN := Lib.hid hN
            clear hN
            go_wp2_with fail
            go_meet
            exact Lib.hid ⟨_, none, 0, none, 0, none, 0, by rw [HN.out]; rfl, G8.out, RdC.nil _ _ rfl rfl rfl, by simp [blks]⟩
           | true =>
            have HN := Lib.hid hN
            clear hN
            obtain ⟨i0, hi, hz0, hz1, hz2⟩ := info_parts Try.info_cmp
            have HI := Lib.hid (And.intro hi (And.intro hz0 (And.intro hz1 hz2)))
            clear hi hz0 hz1 hz2
            have HRV : Hid (RdC X8 y a1 a2 a3) := Lib.hid (HR.out.step G8.out.st)
            have HSR : Hid (Src Try.prog (X8.alloc (.cells #[] 110)) 4 41 (.slice a1 y.ifs.length c1) y.ifs.length (cpcs y.ifs)) := Lib.hid (Src.rd _ _ Try.underlying41 (HRV.out.i.alloc _) (cpcs_one _))
            have HLi : Hid (y.ifs.length ≤ 1099511627776) := Lib.hid HLN.out.i
            have pc := G8.out.inp.cell
            have p15 := pc 15
            have p16 := pc 16
            have p17 := pc 17
            clear pc
            simp only [cmc, List.getElem?_toArray, List.getElem?_cons_zero, List.getElem?_cons_succ] at p15 p16 p17
            have pl := G8.out.inp.lt
            go_upto_region 22 with (at_builtin; refine wpList_append_row rfl (.tmp 79) (.tmp 81) 41 41 rfl 110 i0 _ 4 48 Try.underlying41 HI.out.1 HI.out.2.1 HI.out.2.2.1 HI.out.2.2.2 rfl rfl (Row.empty X8 110 4) rfl HSR.out (by have := HLi.out; unfold maxLen; omega) (by have := HLi.out; omega) (by have := HLi.out; omega) ?_; intro a5 c5 w5 hr5 st5; rw [Nat.zero_add, List.nil_append] at hr5; rw [Nat.zero_add]; have Q : Hid (Row w5 4 a5 y.ifs.length c5 (cpcs y.ifs) ∧ Cq w w5 b y (⟨y.client, y.seq, y.token, y.kind, (if (hasN y.kind) = true then y.name else []), (if (hasO y.kind) = true then y.other else []), (if (hasW y.kind) = true then y.word else []), (if (hasS y.kind) = true then y.salt else []), (if (hasQ y.kind) = true then y.bytes else 0), (if (hasQ y.kind) = true then y.keys else 0), (if (decide (y.kind = 12)) = true then y.gf else (if (hasG y.kind) = true then y.gf else [])), (if (decide (y.kind = 12)) = true then y.gt else (if (hasG y.kind) = true then y.gt else [])), (if (hasG y.kind) = true then y.gr else false), (if (hasG y.kind) = true then y.gw else false), (if (hasR y.kind) = true then y.rev else 0), [], [], []⟩ : Cm) (.slice a1 y.ifs.length c1) (.slice a2 y.thens.length c2) (.slice a3 y.elses.length c3) (.slice none 0 0) (.slice none 0 0) (.slice none 0 0) ∧ (∀ j, j < X8.heap.size → j ∉ blks a5) ∧ b + 1 + 1 < X8.heap.size) := Lib.hid ⟨hr5, (G8.out.grown st5).1, (G8.out.grown st5).2.1, (G8.out.grown st5).2.2⟩; clear hr5 st5 p15 p16 p17 pl; have rc := Q.out.2.1.out.cell; have r15 := rc 15; clear rc; simp only [cmc, List.getElem?_toArray, List.getElem?_cons_zero, List.getElem?_cons_succ] at r15; have rl := Q.out.2.1.out.lt; have rfz := Q.out.2.1.out.frozen; have rf15 := rfz 15; clear rfz)
            obtain ⟨W2, hW2⟩ : ∃ W2, W2 = w5.setCell ⟨b + 1 + 1, 15, none⟩ (.slice a5 y.ifs.length c5) := ⟨_, rfl⟩
            have ss1 : Step [b + 1 + 1] [b + 1 + 1] w5 W2 := by rw [hW2]; exact (Step.refl _ w5).setCell (.inl (by simp)) _
            have N2 : Hid (Cq w W2 b y (⟨y.client, y.seq, y.token, y.kind, (if (hasN y.kind) = true then y.name else []), (if (hasO y.kind) = true then y.other else []), (if (hasW y.kind) = true then y.word else []), (if (hasS y.kind) = true then y.salt else []), (if (hasQ y.kind) = true then y.bytes else 0), (if (hasQ y.kind) = true then y.keys else 0), (if (decide (y.kind = 12)) = true then y.gf else (if (hasG y.kind) = true then y.gf else [])), (if (decide (y.kind = 12)) = true then y.gt else (if (hasG y.kind) = true then y.gt else [])), (if (hasG y.kind) = true then y.gr else false), (if (hasG y.kind) = true then y.gw else false), (if (hasR y.kind) = true then y.rev else 0), [], [], []⟩ : Cm) (.slice a1 y.ifs.length c1) (.slice a2 y.thens.length c2) (.slice a3 y.elses.length c3) (.slice a5 y.ifs.length c5) (.slice none 0 0) (.slice none 0 0)) := Lib.hid (Q.out.2.1.put ss1 (by rw [hW2]; have hq := Q.out.2.1.out.set 15 (.slice a5 y.ifs.length c5); simpa [cmc] using hq))
            have RO := row_own Q.out.1 ss1 Q.out.2.2.1 Q.out.2.2.2
            have R2 : Hid (Rd W2 4 a5 y.ifs.length (cpcs y.ifs) ∧ b + 1 + 1 < W2.heap.size ∧ (∀ g ∈ blks a5, g ≠ b + 1 + 1) ∧ (∀ g ∈ blks a5, b + 1 + 1 < g)) := Lib.hid ⟨RO.1, N2.out.out.lt, RO.2⟩
            clear RO
            rw [← hW2]
            clear hW2 ss1 r15 rl rf15
            refine wp_region_held_drew (S := fun V => Hid (Blk V b 44 (cmc y (.slice a1 y.ifs.length c1) (.slice a2 y.thens.length c2) (.slice a3 y.elses.length c3)).toArray)) (by kernel_rfl) (Lib.hid N2.out.inp.drew) (fun hHeld => ?_)
            refine wpAnyH_take (i := 0) (v := ?_) rfl (by kernel_rfl) (by kernel_rfl) (by kernel_rfl) (fun _ _ _ h => h) (Or.inl ⟨by rfl, ?_⟩) hHeld ?_
            rotate_left
            ·intro w hSw1
             try dsimp only at hSw1
             go_simp
             try (with_reducible rfl)
            try simp only [Act.put, LsA, LsB, LsC, LsD, LsE, LsF]
            refine wpAnyH_take (i := 1) (v := ?_) rfl (by kernel_rfl) (by kernel_rfl) (by kernel_rfl) (fun _ _ _ h => h) (Or.inl ⟨by rfl, ?_⟩) hHeld ?_
            rotate_left
            ·intro w hSw1
             have tc := hSw1.out.cell
             have t16 := tc 16
             have t17 := tc 17
             clear tc
             simp only [cmc, List.getElem?_toArray, List.getElem?_cons_zero, List.getElem?_cons_succ] at t16 t17
             have tl := hSw1.out.lt
             go_simp
             try (with_reducible rfl)
            try simp only [Act.put, LsA, LsB, LsC, LsD, LsE, LsF]
            refine wpAnyH_take (i := 3) (v := ?_) rfl (by kernel_rfl) (by kernel_rfl) (by kernel_rfl) (fun _ _ _ h => h) (Or.inl ⟨by rfl, ?_⟩) hHeld ?_
            rotate_left
            ·intro w hSw1
             try dsimp only at hSw1
             go_simp
             try (with_reducible rfl)
            try simp only [Act.put, LsA, LsB, LsC, LsD, LsE, LsF]
            refine wpAnyH_take (i := 4) (v := ?_) rfl (by kernel_rfl) (by kernel_rfl) (by kernel_rfl) (fun _ _ _ h => h) (Or.inl ⟨by rfl, ?_⟩) hHeld ?_
            rotate_left
            ·intro w hSw1
             have tc := hSw1.out.cell
             have t16 := tc 16
             have t17 := tc 17
             clear tc
             simp only [cmc, List.getElem?_toArray, List.getElem?_cons_zero, List.getElem?_cons_succ] at t16 t17
             have tl := hSw1.out.lt
             go_simp
             try (with_reducible rfl)
            try simp only [Act.put, LsA, LsB, LsC, LsD, LsE, LsF]
            refine wpAnyH_ready (rs := [2]) (by kernel_rfl) (by simp) ?_
            refine AllReadyH.cons rfl (fun K hK => ?_) AllReadyH.nil
            go_simp
            refine (racts_any y.thens a2 c2 _ ((HR.out.step (N2.out.st.drew)).t) HLN.out.t).mono ?_; rintro e X1 ⟨d2, e2, rfl, r2, k2⟩; have G2 : Hid (Cq w X1 b y (⟨y.client, y.seq, y.token, y.kind, (if (hasN y.kind) = true then y.name else []), (if (hasO y.kind) = true then y.other else []), (if (hasW y.kind) = true then y.word else []), (if (hasS y.kind) = true then y.salt else []), (if (hasQ y.kind) = true then y.bytes else 0), (if (hasQ y.kind) = true then y.keys else 0), (if (decide (y.kind = 12)) = true then y.gf else (if (hasG y.kind) = true then y.gf else [])), (if (decide (y.kind = 12)) = true then y.gt else (if (hasG y.kind) = true then y.gt else [])), (if (hasG y.kind) = true then y.gr else false), (if (hasG y.kind) = true then y.gw else false), (if (hasR y.kind) = true then y.rev else 0), [], [], []⟩ : Cm) (.slice a1 y.ifs.length c1) (.slice a2 y.thens.length c2) (.slice a3 y.elses.length c3) (.slice a5 y.ifs.length c5) (.slice none 0 0) (.slice none 0 0) ∧ Rd X1 4 a5 y.ifs.length (cpcs y.ifs) ∧ Rd X1 7 d2 y.thens.length (dacs (y.thens.map actL)) ∧ (∀ g ∈ blks d2, W2.heap.size ≤ g)) := ⟨(N2.out.quiet ((Step.refl [] _).drew)).hold k2, (R2.out.1.step0 ((Step.refl [] _).drew)).step0 k2, r2, fun g hg => (by rcases k2.fresh g hg with h | h <;> first | exact h | cases h)⟩; clear r2 k2
            go_wp2_with fail
            refine hK.out _ _ (Lib.hid G2.out.1.inp) (fun hHeld2 => ?_)
            clear hK K hHeld
            try simp only [Act.put, LsA, LsB, LsC, LsD, LsE, LsF]
            refine wpAnyH_take (i := 6) (v := ?_) rfl (by kernel_rfl) (by kernel_rfl) (by kernel_rfl) (fun _ _ _ h => h) (Or.inl ⟨by rfl, ?_⟩) hHeld2 ?_
            rotate_left
            ·intro w hSw1
             try dsimp only at hSw1
             go_simp
             try (with_reducible rfl)
            try simp only [Act.put, LsA, LsB, LsC, LsD, LsE, LsF]
            refine wpAnyH_ready (rs := [5]) (by kernel_rfl) (by simp) ?_
            refine AllReadyH.cons rfl (fun K hK => ?_) AllReadyH.nil
            go_simp
            refine (racts_any y.elses a3 c3 _ ((HR.out.step G2.out.1.st).e) HLN.out.e).mono ?_; rintro e X2 ⟨d3, e3, rfl, r3, k3⟩; have G3 : Hid (Cq w X2 b y (⟨y.client, y.seq, y.token, y.kind, (if (hasN y.kind) = true then y.name else []), (if (hasO y.kind) = true then y.other else []), (if (hasW y.kind) = true then y.word else []), (if (hasS y.kind) = true then y.salt else []), (if (hasQ y.kind) = true then y.bytes else 0), (if (hasQ y.kind) = true then y.keys else 0), (if (decide (y.kind = 12)) = true then y.gf else (if (hasG y.kind) = true then y.gf else [])), (if (decide (y.kind = 12)) = true then y.gt else (if (hasG y.kind) = true then y.gt else [])), (if (hasG y.kind) = true then y.gr else false), (if (hasG y.kind) = true then y.gw else false), (if (hasR y.kind) = true then y.rev else 0), [], [], []⟩ : Cm) (.slice a1 y.ifs.length c1) (.slice a2 y.thens.length c2) (.slice a3 y.elses.length c3) (.slice a5 y.ifs.length c5) (.slice none 0 0) (.slice none 0 0) ∧ Rd X2 4 a5 y.ifs.length (cpcs y.ifs) ∧ Rd X2 7 d2 y.thens.length (dacs (y.thens.map actL)) ∧ Rd X2 7 d3 y.elses.length (dacs (y.elses.map actL)) ∧ (∀ g ∈ blks d3, X1.heap.size ≤ g) ∧ b + 1 + 1 < X1.heap.size) := ⟨G2.out.1.hold k3, G2.out.2.1.step0 k3, G2.out.2.2.1.step0 k3, r3, fun g hg => (by rcases k3.fresh g hg with h | h <;> first | exact h | cases h), G2.out.1.out.lt⟩; clear r3 k3; have rc := G3.out.1.out.cell; have r16 := rc 16; have r17 := rc 17; clear rc; simp only [cmc, List.getElem?_toArray, List.getElem?_cons_zero, List.getElem?_cons_succ] at r16 r17; have rl := G3.out.1.out.lt; have rfz := G3.out.1.out.frozen; have rf16 := rfz 16; have rf17 := rfz 17; clear rfz
            go_wp2_with fail
            refine hK.out _ _ (Lib.hid G3.out.1.inp) (fun hHeld3 => ?_)
            clear hK K hHeld2
            try simp only [Act.put, LsA, LsB, LsC, LsD, LsE, LsF]
            refine wpAnyH_ready (rs := [7]) (by kernel_rfl) (by simp) ?_
            refine AllReadyH.cons rfl (fun K hK => ?_) AllReadyH.nil
            go_simp
            skip
            go_wp2_with fail
            refine hK.out _ _ (Lib.hid (Blk.far (p := ⟨b + 1 + 1, 16, none⟩) hHeld3.out (by simp; omega) _)) (fun hHeld4 => ?_)
            clear hK K hHeld3
            try simp only [Act.put, LsA, LsB, LsC, LsD, LsE, LsF]
            refine wpAnyH_take (i := 8) (v := ?_) rfl (by kernel_rfl) (by kernel_rfl) (by kernel_rfl) (fun _ _ _ h => h) (Or.inl ⟨by rfl, ?_⟩) hHeld4 ?_
            rotate_left
            ·intro w hSw1
             try dsimp only at hSw1
             go_simp
             try (with_reducible rfl)
            try simp only [Act.put, LsA, LsB, LsC, LsD, LsE, LsF]
            refine wpAnyH_ready (rs := [9]) (by kernel_rfl) (by simp) ?_
            refine AllReadyH.cons rfl (fun K hK => ?_) AllReadyH.nil
            go_simp
            skip
            go_wp2_with fail
            refine hK.out _ _ (Lib.hid (Blk.far (p := ⟨b + 1 + 1, 17, none⟩) hHeld4.out (by simp; omega) _)) (fun hHeld5 => ?_)
            clear hK K hHeld4
            try simp only [Act.put, LsA, LsB, LsC, LsD, LsE, LsF]
            refine wpAnyH_done (by kernel_rfl) ?_ _
            go_wp2_with fail
            go_meet
            have ss : Step [b + 1 + 1] [b + 1 + 1] X2 ((X2.setCell ⟨b + 1 + 1, 16, none⟩ (.slice d2 y.thens.length e2)).setCell ⟨b + 1 + 1, 17, none⟩ (.slice d3 y.elses.length e3)) := ((Step.refl [b + 1 + 1] X2).setCell (.inl (by simp)) _).setCell (.inl (by simp)) _
            refine Lib.hid ⟨(⟨y.client, y.seq, y.token, y.kind, (if (hasN y.kind) = true then y.name else []), (if (hasO y.kind) = true then y.other else []), (if (hasW y.kind) = true then y.word else []), (if (hasS y.kind) = true then y.salt else []), (if (hasQ y.kind) = true then y.bytes else 0), (if (hasQ y.kind) = true then y.keys else 0), (if (decide (y.kind = 12)) = true then y.gf else (if (hasG y.kind) = true then y.gf else [])), (if (decide (y.kind = 12)) = true then y.gt else (if (hasG y.kind) = true then y.gt else [])), (if (hasG y.kind) = true then y.gr else false), (if (hasG y.kind) = true then y.gw else false), (if (hasR y.kind) = true then y.rev else 0), y.ifs, y.thens.map actL, y.elses.map actL⟩ : Cm), a5, c5, d2, e2, d3, e3, by rw [HN.out]; rfl, G3.out.1.put ss (by have hq := (G3.out.1.out.set 16 (.slice d2 y.thens.length e2)).set 17 (.slice d3 y.elses.length e3); simpa [cmc] using hq), ⟨?_, ?_, ?_⟩, ?_⟩
            ·exact G3.out.2.1.step ss (fun g hg e => by simp at e; exact R2.out.2.2.1 g hg e)
            ·have hr := G3.out.2.2.1.step ss (fun g hg e => by simp at e; have := G2.out.2.2.2 g hg; have := R2.out.2.1; omega)
             simpa using hr
            ·have hr := G3.out.2.2.2.1.step ss (fun g hg e => by simp at e; have := G3.out.2.2.2.2.1 g hg; have := G3.out.2.2.2.2.2; omega)
             simpa using hr
            ·rintro g (hg | hg | hg)
             ·exact R2.out.2.2.2 g hg
             ·have := G2.out.2.2.2 g hg; have := R2.out.2.1; omega
             ·have := G3.out.2.2.2.2.1 g hg; have := G3.out.2.2.2.2.2; omega
         case rest =>
          rename World => V8
          clear G8
          obtain ⟨x, d1, e1, d2, e2, d3, e3, hx, hc, hr⟩ := hcut.out
          have HX := Lib.hid hx
          have H9 := Lib.hid hc
          have HRR := Lib.hid hr
          clear hcut hx hc hr
          have hcl : cleanC y = x := by
           rw [HX.out, cleanC, if_pos HK.out]
           unfold onlyC
           have hp : hasP y.kind = (hasG y.kind || decide (y.kind = 12)) := by simp [hasP, hasG]
           rw [hp]
           cases h11 : hasG y.kind <;> cases h12 : decide (y.kind = 12) <;> cases hT : hasT y.kind <;> simp_all
          have HC := Lib.hid hcl
          clear hcl HX
          go_wp2_with (first | (refine wpList_loadRow (T := 44) (b := b + 1 + 1) (T' := 44) (cs := (cmc x (.slice d1 x.ifs.length e1) (.slice d2 x.thens.length e2) (.slice d3 x.elses.length e3)).toArray) rfl (.tmp 4) rfl rfl Try.sCmd H9.out.out ?_) | (refine wpList_storeRow (T := 44) (b := b + 1) (T' := 44) (cs := cmZ18) (vs := (cmc x (.slice d1 x.ifs.length e1) (.slice d2 x.thens.length e2) (.slice d3 x.elses.length e3)).toArray) rfl (.tmp 2) (.tmp 92) rfl rfl rfl Try.sCmd H9.out.res rfl (cmc_one _ _ _ _ rfl rfl rfl) ?_; intro U Q ss))
          have so := H9.out.st.out1' ss (by have := H9.out.eq; simp; omega)
          have hrr : RdC U x d1 d2 d3 := ⟨HRR.out.1.i.step ss (fun g hg e => by simp at e; have := HRR.out.2 g (.inl hg); omega), HRR.out.1.t.step ss (fun g hg e => by simp at e; have := HRR.out.2 g (.inr (.inl hg)); omega), HRR.out.1.e.step ss (fun g hg e => by simp at e; have := HRR.out.2 g (.inr (.inr hg)); omega)⟩
          refine bodyPost_ret (v := .tuple #[.agg (cmc x (.slice d1 x.ifs.length e1) (.slice d2 x.thens.length e2) (.slice d3 x.elses.length e3)).toArray, .bool true]) ?_ rfl ⟨d1, e1, d2, e2, d3, e3, ?_, ?_, fun g hg => by have := HRR.out.2 g hg; have := H9.out.eq; omega, so⟩
          ·exact res_row2 (T := 44) (p := 2) (u := 3) rfl _ rfl Try.sCmd Q
          ·rw [HC.out, HK.out]; rfl
          ·rw [HC.out]; exact hrr

set_option maxHeartbeats 8000000 in
theorem clean_no (y : Cm) (a1 a2 a3 : Option Addr) (c1 c2 c3 : Nat) (w : World) (hk : isK y.kind = false) : Calls Try.prog 73 #[cmV y (.slice a1 y.ifs.length c1) (.slice a2 y.thens.length c2) (.slice a3 y.elses.length c3)] w (CleanF y w) := by
 have HCZ : Hid (cleanC y = cmZ ∧ isK y.kind = false) := Lib.hid ⟨by simp [cleanC, hk], hk⟩
 have B1 : Blk ((w.alloc (.cells (cmc y (.slice a1 y.ifs.length c1) (.slice a2 y.thens.length c2) (.slice a3 y.elses.length c3)).toArray 44)).alloc (.cells cmZ18 44)) (w.heap.size + 1) 44 cmZ18 := by
  have := Blk.new (w.alloc (.cells (cmc y (.slice a1 y.ifs.length c1) (.slice a2 y.thens.length c2) (.slice a3 y.elses.length c3)).toArray 44)) 44 cmZ18
  simpa using this
 have HB : Hid (Blk ((w.alloc (.cells (cmc y (.slice a1 y.ifs.length c1) (.slice a2 y.thens.length c2) (.slice a3 y.elses.length c3)).toArray 44)).alloc (.cells cmZ18 44)) (w.heap.size + 1) 44 cmZ18 ∧ Step [] [] w ((w.alloc (.cells (cmc y (.slice a1 y.ifs.length c1) (.slice a2 y.thens.length c2) (.slice a3 y.elses.length c3)).toArray 44)).alloc (.cells cmZ18 44))) := Lib.hid ⟨B1, ((Step.refl [] w).alloc _).alloc _⟩
 clear B1
 by_cases h1 : y.kind < 1
 ·clear hk
  go_enter Try.func73, Try.ntmps73
  go_upto_region 2 with fail
  change Code.wp _ _ _ _ ((w.alloc (.cells (cmc y (.slice a1 y.ifs.length c1) (.slice a2 y.thens.length c2) (.slice a3 y.elses.length c3)).toArray 44)).alloc (.cells cmZ18 44))
  obtain ⟨V, hV⟩ : ∃ V, V = ((w.alloc (.cells (cmc y (.slice a1 y.ifs.length c1) (.slice a2 y.thens.length c2) (.slice a3 y.elses.length c3)).toArray 44)).alloc (.cells cmZ18 44)) := ⟨_, rfl⟩
  obtain ⟨b, hb⟩ : ∃ b, b = w.heap.size := ⟨_, rfl⟩
  rw [← hV, ← hb] at HB
  have HBE := Lib.hid hb
  rw [← hV, ← hb]
  clear hV hb
  go_wp2_with (refine wpList_storeRow (T := 44) (b := b + 1) (T' := 44) (cs := cmZ18) (vs := cmZ18) rfl (.tmp 2) (.tmp 13) rfl rfl rfl Try.sCmd HB.out.1 rfl cmZ18_one ?_; intro U Q ss)
  refine bodyPost_ret (v := .tuple #[.agg cmZ18, .bool false]) ?_ rfl ⟨none, 0, none, 0, none, 0, ?_, ?_, by simp [blks], HB.out.2.out1' ss (by have := HBE.out; simp; omega)⟩
  ·exact res_row2 (T := 44) (p := 2) (u := 3) rfl _ rfl Try.sCmd Q
  ·rw [HCZ.out.1, HCZ.out.2]; rfl
  ·rw [HCZ.out.1]; exact RdC.nil _ _ rfl rfl rfl
 ·have h2 : 14 < y.kind := by simp [isK] at hk; omega
  clear hk
  go_enter Try.func73, Try.ntmps73
  go_upto_region 2 with fail
  change Code.wp _ _ _ _ ((w.alloc (.cells (cmc y (.slice a1 y.ifs.length c1) (.slice a2 y.thens.length c2) (.slice a3 y.elses.length c3)).toArray 44)).alloc (.cells cmZ18 44))
  obtain ⟨V, hV⟩ : ∃ V, V = ((w.alloc (.cells (cmc y (.slice a1 y.ifs.length c1) (.slice a2 y.thens.length c2) (.slice a3 y.elses.length c3)).toArray 44)).alloc (.cells cmZ18 44)) := ⟨_, rfl⟩
  obtain ⟨b, hb⟩ : ∃ b, b = w.heap.size := ⟨_, rfl⟩
  rw [← hV, ← hb] at HB
  have HBE := Lib.hid hb
  rw [← hV, ← hb]
  clear hV hb
  go_wp2_with (refine wpList_storeRow (T := 44) (b := b + 1) (T' := 44) (cs := cmZ18) (vs := cmZ18) rfl (.tmp 2) (.tmp 13) rfl rfl rfl Try.sCmd HB.out.1 rfl cmZ18_one ?_; intro U Q ss)
  refine bodyPost_ret (v := .tuple #[.agg cmZ18, .bool false]) ?_ rfl ⟨none, 0, none, 0, none, 0, ?_, ?_, by simp [blks], HB.out.2.out1' ss (by have := HBE.out; simp; omega)⟩
  ·exact res_row2 (T := 44) (p := 2) (u := 3) rfl _ rfl Try.sCmd Q
  ·rw [HCZ.out.1, HCZ.out.2]; rfl
  ·rw [HCZ.out.1]; exact RdC.nil _ _ rfl rfl rfl
theorem rcleanF_any (y : Cm) (a1 a2 a3 : Option Addr) (c1 c2 c3 : Nat) (w : World) (hr : RdC w y a1 a2 a3) (hl : LenC y) : Calls Try.prog 73 #[cmV y (.slice a1 y.ifs.length c1) (.slice a2 y.thens.length c2) (.slice a3 y.elses.length c3)] w (CleanF y w) := by
 cases hk : isK y.kind with
 | false => exact clean_no y a1 a2 a3 c1 c2 c3 w hk
 | true => exact clean_yes y a1 a2 a3 c1 c2 c3 w hk hr hl
end Go.Proofs.Ytjfaplmojpldhaa
