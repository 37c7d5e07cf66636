/-
 Encode: a request's bytes. Condition: at most 2^20 compares and acts, texts of at most 2^49 bytes.
-/
import Derived.Test.YtjfaplmojpldhaaZReqD
import Derived.Test.YtjfaplmojpldhaaZReqF
import Derived.Test.YtjfaplmojpldhaaZReqH
import Derived.Deep.DeepCutAuto
import Derived.Deep.CutBlock
namespace Go.Proofs.Ytjfaplmojpldhaa
open Go.RowKit
set_option linter.unusedSimpArgs false
set_option linter.unusedVariables false
set_option maxRecDepth 100000

def wcmp (st : WS) (c : Cp) : WS := wtext ([c.what, c.rev].foldl wnum (wtext st c.key)) c.val
def encHead (y : Cm) : WS := wtext ([y.kind, y.client, y.seq].foldl wnum ⟨[], 0⟩) y.token
def encTail (y : Cm) (st : WS) : WS :=
 if y.kind = 1 then [y.name, y.word].foldl wtext st
 else if y.kind = 2 then wacts (wacts (y.ifs.foldl wcmp (wnum st y.ifs.length)) y.thens) y.elses
 else if y.kind = 3 then wnum st y.rev
 else if y.kind = 4 ∨ y.kind = 5 then [y.bytes, y.keys].foldl wnum (wtext st y.name)
 else if y.kind = 6 then [y.name, y.other, y.word, y.salt].foldl wtext st
 else if y.kind = 7 then [y.name, y.word, y.salt].foldl wtext st
 else if y.kind = 8 ∨ y.kind = 10 then wtext st y.name
 else if y.kind = 11 then wflag (wflag ([y.name, y.gf, y.gt].foldl wtext st) y.gr) y.gw
 else if y.kind = 12 then [y.name, y.gf, y.gt].foldl wtext st
 else [y.name, y.other].foldl wtext st
def badC (y : Cm) : Bool := y.thens.any badA || y.elses.any badA
def encC (y : Cm) : List UInt8 × Int :=
 if okIds y.client y.seq = false then ([], 1)
 else if wrongC y = true ∨ badC y = true then ([], 1)
 else if (wbytes (encTail y (encHead y))).2 = 0 then (if 8192 < (wbytes (encTail y (encHead y))).1.length then ([], 2) else ((wbytes (encTail y (encHead y))).1, 0))
 else ([], (wbytes (encTail y (encHead y))).2)
structure CpB (c : Cp) : Prop where
 what : c.what < 9223372036854775808
 rev : c.rev < 9223372036854775808
 key : c.key.length ≤ 562949953421312
 val : c.val.length ≤ 562949953421312
structure CmB (y : Cm) : Prop where
 client : y.client < 9223372036854775808
 seq : y.seq < 9223372036854775808
 bytes : y.bytes < 9223372036854775808
 keys : y.keys < 9223372036854775808
 rev : y.rev < 9223372036854775808
 token : y.token.length ≤ 562949953421312
 name : y.name.length ≤ 562949953421312
 other : y.other.length ≤ 562949953421312
 word : y.word.length ≤ 562949953421312
 salt : y.salt.length ≤ 562949953421312
 gf : y.gf.length ≤ 562949953421312
 gt : y.gt.length ≤ 562949953421312
 ifs : ∀ c ∈ y.ifs, CpB c
 thens : ∀ d ∈ y.thens, DaB d
 elses : ∀ d ∈ y.elses, DaB d

set_option maxHeartbeats 40000000 in
theorem encode_any {w : World} {y : Cm} {v : Value} (h : IsReq w y v) (hB : CmB y) (hL : LenS y) : Calls Try.prog 39 #[v] w fun e w' => e = .returned (.tuple #[Str (encC y).1, .int .i64 (encC y).2]) ∧ Step [] [] w w' := by
 obtain ⟨d1, e1, d2, e2, d3, e3, hv, _⟩ := h.at_
 obtain ⟨B0, hB0⟩ : ∃ B, B = bodyV y (.slice d1 y.ifs.length e1) (.slice d2 y.thens.length e2) (.slice d3 y.elses.length e3) := ⟨_, rfl⟩
 rw [← hB0] at hv
 subst hv
 clear hB0
 have HM := Lib.hid (And.intro h (And.intro hB (And.intro hL (IsReq.flat h))))
 have k0 : (y.kind == 0) = false := by simp; have := h.kind; simp [isK] at this; omega
 have hkb : y.kind < 9223372036854775808 := by have := h.kind; simp [isK] at this; omega
 clear h hB hL
 go_enter Try.func39, Try.ntmps39
 go_wp2_with fail
 refine (HM.out.2.2.2 _ ((Step.refl [] w).alloc _)).mono ?_
 rintro e w1 ⟨a1, c1, a2, c2, a3, c3, rfl, hrc, k1⟩
 have H1 : Hid (RdC w1 y a1 a2 a3 ∧ Step [] [] w w1) := ⟨hrc, ((Step.refl [] w).alloc _).trans k1⟩
 clear hrc k1
 have HN := Lib.hid (Blk.new w1 44 #[.int .i64 0, .int .i64 0, .string ⟨#[]⟩, .int .i64 0, .string ⟨#[]⟩, .string ⟨#[]⟩, .string ⟨#[]⟩, .string ⟨#[]⟩, .int .i64 0, .int .i64 0, .string ⟨#[]⟩, .string ⟨#[]⟩, .bool false, .bool false, .int .i64 0, .slice none 0 0, .slice none 0 0, .slice none 0 0])
 go_upto_region 2 with (refine wpList_storeRow (T := 44) (b := w1.heap.size) (T' := 44) (cs := #[.int .i64 0, .int .i64 0, .string ⟨#[]⟩, .int .i64 0, .string ⟨#[]⟩, .string ⟨#[]⟩, .string ⟨#[]⟩, .string ⟨#[]⟩, .int .i64 0, .int .i64 0, .string ⟨#[]⟩, .string ⟨#[]⟩, .bool false, .bool false, .int .i64 0, .slice none 0 0, .slice none 0 0, .slice none 0 0]) (vs := #[.int .i64 y.client, .int .i64 y.seq, .string ⟨y.token.toArray⟩, .int .i64 y.kind, .string ⟨y.name.toArray⟩, .string ⟨y.other.toArray⟩, .string ⟨y.word.toArray⟩, .string ⟨y.salt.toArray⟩, .int .i64 y.bytes, .int .i64 y.keys, .string ⟨y.gf.toArray⟩, .string ⟨y.gt.toArray⟩, .bool y.gr, .bool y.gw, .int .i64 y.rev, .slice a1 y.ifs.length c1, .slice a2 y.thens.length c2, .slice a3 y.elses.length c3]) rfl (.tmp 4) (.tmp 11) rfl rfl rfl Try.sCmd HN.out rfl (by simp [Value.oneCell']) ?_; intro V vb ks)
 have ko : Step [] [] w1 V := ((Step.refl [] w1).alloc _).out1' ks (by simp)
 obtain ⟨bc, hbc⟩ : ∃ b, b = w1.heap.size := ⟨_, rfl⟩
 have H2 : Hid (RdC V y a1 a2 a3 ∧ Step [] [] w V ∧ Blk V bc 44 #[.int .i64 y.client, .int .i64 y.seq, .string ⟨y.token.toArray⟩, .int .i64 y.kind, .string ⟨y.name.toArray⟩, .string ⟨y.other.toArray⟩, .string ⟨y.word.toArray⟩, .string ⟨y.salt.toArray⟩, .int .i64 y.bytes, .int .i64 y.keys, .string ⟨y.gf.toArray⟩, .string ⟨y.gt.toArray⟩, .bool y.gr, .bool y.gw, .int .i64 y.rev, .slice a1 y.ifs.length c1, .slice a2 y.thens.length c2, .slice a3 y.elses.length c3]) := by
  rw [hbc]
  exact ⟨H1.out.1.step ko, H1.out.2.trans ko, vb⟩
 rw [← hbc]
 clear hbc H1 HN vb ks ko
 obtain ⟨⟨m0, m1, m2, m3, m4, m5, m6, m7, m8, m9, m10, m11, m12, m13, m14, m15, m16, m17⟩, ml, -⟩ := Blk.all18 (H2.out.2.2)
 go_wp2_with fail
 refine (ids_any y.client y.seq V).mono ?_
 rintro e V0 ⟨rfl, rfl⟩
 cases hid : okIds y.client y.seq with
 | false =>
  have HE : Hid (encC y = ([], 1)) := Lib.hid (by simp [encC, hid])
  have HO := Lib.hid H2.out.2.1
  clear hid
  as_aux_lemma =>
   go_wp2_with fail
   exact bodyPost_ret (results_tmp2 rfl _ _ _) rfl ⟨by rw [HE.out]; rfl, HO.out⟩
 | true =>
  have HID := Lib.hid hid
  clear hid
  go_upto_region 5 with fail
  clear m0 m1 m2 m3 m4 m5 m6 m7 m8 m9 m10 m11 m12 m13 m14 m15 m16 m17 ml
  obtain ⟨p, hp⟩ : ∃ b, b = V.heap.size := ⟨_, rfl⟩
  obtain ⟨V2, hV2⟩ : ∃ V2, V2 = V.alloc (.cells #[.slice none 0 0, .int .i64 0, .bool false] 145) := ⟨_, rfl⟩
  have G0 : Hid (Ek V V2 [(bc, 44, #[.int .i64 y.client, .int .i64 y.seq, .string ⟨y.token.toArray⟩, .int .i64 y.kind, .string ⟨y.name.toArray⟩, .string ⟨y.other.toArray⟩, .string ⟨y.word.toArray⟩, .string ⟨y.salt.toArray⟩, .int .i64 y.bytes, .int .i64 y.keys, .string ⟨y.gf.toArray⟩, .string ⟨y.gt.toArray⟩, .bool y.gr, .bool y.gw, .int .i64 y.rev, .slice a1 y.ifs.length c1, .slice a2 y.thens.length c2, .slice a3 y.elses.length c3])] p false ⟨[], 0⟩) := by
   rw [hV2, hp]
   refine ⟨[V.heap.size], ⟨none, 0, Blk.new _ _ _, Row.none _ 1, by simp [blks], rfl, by simp⟩, ((Step.refl [] V).hold _).drop (by simp), fun q hq => ?_⟩
   simp at hq
   subst hq
   exact ⟨H2.out.2.2.alloc _, by have := H2.out.2.2.lt; simp; omega⟩
  have HRC := Lib.hid H2.out.1
  have HVS := Lib.hid H2.out.2.1
  rw [← hV2, ← hp]
  clear hV2 hp H2
  obtain ⟨⟨m0, m1, m2, m3, m4, m5, m6, m7, m8, m9, m10, m11, m12, m13, m14, m15, m16, m17⟩, ml, -⟩ := Blk.all18 (G0.out.blk (List.mem_cons_self ..))
  go_wp2_with fail
  refine (ek_nums G0.out [y.kind, y.client, y.seq] (by intro n hn; simp at hn; rcases hn with rfl | rfl | rfl <;> first | exact hkb | exact HM.out.2.1.client | exact HM.out.2.1.seq) (by simp)).mono ?_
  rintro e X1 ⟨rfl, t1⟩
  have G1 := Lib.hid t1
  clear t1
  clear m0 m1 m2 m3 m4 m5 m6 m7 m8 m9 m10 m11 m12 m13 m14 m15 m16 m17 ml
  obtain ⟨⟨m0, m1, m2, m3, m4, m5, m6, m7, m8, m9, m10, m11, m12, m13, m14, m15, m16, m17⟩, ml, -⟩ := Blk.all18 (G1.out.blk (List.mem_cons_self ..))
  go_upto_region 6 with fail
  clear m0 m1 m2 m3 m4 m5 m6 m7 m8 m9 m10 m11 m12 m13 m14 m15 m16 m17 ml
  have G2d := Lib.hid (G1.out.quiet ((Step.refl [] _).drew))
  refine wp_region_held_drew (S := fun V => Hid (Blk V bc 44 #[.int .i64 y.client, .int .i64 y.seq, .string ⟨y.token.toArray⟩, .int .i64 y.kind, .string ⟨y.name.toArray⟩, .string ⟨y.other.toArray⟩, .string ⟨y.word.toArray⟩, .string ⟨y.salt.toArray⟩, .int .i64 y.bytes, .int .i64 y.keys, .string ⟨y.gf.toArray⟩, .string ⟨y.gt.toArray⟩, .bool y.gr, .bool y.gw, .int .i64 y.rev, .slice a1 y.ifs.length c1, .slice a2 y.thens.length c2, .slice a3 y.elses.length c3])) (by kernel_rfl) (Lib.hid (G2d.out.blk (List.mem_cons_self ..))) (fun hHeld => ?_)
  refine wpAnyH_take (i := 0) (v := ?_) rfl (by kernel_rfl) (by kernel_rfl) (by kernel_rfl) (fun _ _ _ h => h) (Or.inl ⟨by rfl, ?_⟩) hHeld ?_
  rotate_left
  ·intro w hSw1
   try dsimp only at hSw1
   go_simp
   try (with_reducible rfl)
  try simp only [Act.put, LsA, LsB, LsC, LsD, LsE, LsF]
  refine wpAnyH_take (i := 1) (v := ?_) rfl (by kernel_rfl) (by kernel_rfl) (by kernel_rfl) (fun _ _ _ h => h) (Or.inl ⟨by rfl, ?_⟩) hHeld ?_
  rotate_left
  ·intro w hSw1
   try dsimp only at hSw1
   go_simp
   try (with_reducible rfl)
  try simp only [Act.put, LsA, LsB, LsC, LsD, LsE, LsF]
  refine wpAnyH_take (i := 2) (v := ?_) rfl (by kernel_rfl) (by kernel_rfl) (by kernel_rfl) (fun _ _ _ h => h) (Or.inl ⟨by rfl, ?_⟩) hHeld ?_
  rotate_left
  ·intro w hSw1
   try dsimp only at hSw1
   go_simp
   try (with_reducible rfl)
  try simp only [Act.put, LsA, LsB, LsC, LsD, LsE, LsF]
  refine wpAnyH_take (i := 3) (v := ?_) rfl (by kernel_rfl) (by kernel_rfl) (by kernel_rfl) (fun _ _ _ h => h) (Or.inl ⟨by rfl, ?_⟩) hHeld ?_
  rotate_left
  ·intro w hSw1
   try dsimp only at hSw1
   go_simp
   try (with_reducible rfl)
  try simp only [Act.put, LsA, LsB, LsC, LsD, LsE, LsF]
  refine wpAnyH_take (i := 4) (v := ?_) rfl (by kernel_rfl) (by kernel_rfl) (by kernel_rfl) (fun _ _ _ h => h) (Or.inl ⟨by rfl, ?_⟩) hHeld ?_
  rotate_left
  ·intro w hSw1
   have tc := hSw1.out.cell 2
   simp only [List.getElem?_toArray, List.getElem?_cons_zero, List.getElem?_cons_succ] at tc
   have tl := hSw1.out.lt
   go_simp
   try (with_reducible rfl)
  try simp only [Act.put, LsA, LsB, LsC, LsD, LsE, LsF]
  refine wpAnyH_ready (rs := [5]) (by kernel_rfl) (by simp) ?_
  refine AllReadyH.cons rfl (fun K hK => ?_) AllReadyH.nil
  go_simp
  refine (ek_text G2d.out y.token HM.out.2.1.token).mono ?_; rintro e X2 ⟨rfl, t2⟩; have G2 := Lib.hid t2; clear t2
  go_wp2_with fail
  refine hK.out _ _ (Lib.hid (G2.out.blk (List.mem_cons_self ..))) (fun hHeld2 => ?_)
  clear hK K hHeld
  try simp only [Act.put, LsA, LsB, LsC, LsD, LsE, LsF]
  refine wpAnyH_done (by kernel_rfl) ?_ _
  as_aux_lemma =>
   obtain ⟨⟨m0, m1, m2, m3, m4, m5, m6, m7, m8, m9, m10, m11, m12, m13, m14, m15, m16, m17⟩, ml, -⟩ := Blk.all18 (G2.out.blk (List.mem_cons_self ..))
   go_upto_block 0 with fail
   clear m0 m1 m2 m3 m4 m5 m6 m7 m8 m9 m10 m11 m12 m13 m14 m15 m16 m17 ml
   go_cut [] (fun wx => Hid (Ek V wx [(bc, 44, #[.int .i64 y.client, .int .i64 y.seq, .string ⟨y.token.toArray⟩, .int .i64 y.kind, .string ⟨y.name.toArray⟩, .string ⟨y.other.toArray⟩, .string ⟨y.word.toArray⟩, .string ⟨y.salt.toArray⟩, .int .i64 y.bytes, .int .i64 y.keys, .string ⟨y.gf.toArray⟩, .string ⟨y.gt.toArray⟩, .bool y.gr, .bool y.gw, .int .i64 y.rev, .slice a1 y.ifs.length c1, .slice a2 y.thens.length c2, .slice a3 y.elses.length c3])] p (badC y) (encTail y (encHead y))))
   case first =>
    obtain hk | hk | hk | hk | hk | hk | hk | hk | hk | hk | hk | hk | hk | hk : y.kind = 1 ∨ y.kind = 2 ∨ y.kind = 3 ∨ y.kind = 4 ∨ y.kind = 5 ∨ y.kind = 6 ∨ y.kind = 7 ∨ y.kind = 8 ∨ y.kind = 9 ∨ y.kind = 10 ∨ y.kind = 11 ∨ y.kind = 12 ∨ y.kind = 13 ∨ y.kind = 14 := by have := HM.out.1.kind; simp [isK] at this; omega
    ·as_aux_lemma =>
      have HKN := Lib.hid hk
      have k1 : (y.kind == 1) = true := by simp [hk]
      have k2 : (y.kind == 2) = false := by simp [hk]
      have k3 : (y.kind == 3) = false := by simp [hk]
      have k4 : (y.kind == 4) = false := by simp [hk]
      have k5 : (y.kind == 5) = false := by simp [hk]
      have k6 : (y.kind == 6) = false := by simp [hk]
      have k7 : (y.kind == 7) = false := by simp [hk]
      have k8 : (y.kind == 8) = false := by simp [hk]
      have k9 : (y.kind == 9) = false := by simp [hk]
      have k10 : (y.kind == 10) = false := by simp [hk]
      have k11 : (y.kind == 11) = false := by simp [hk]
      have k12 : (y.kind == 12) = false := by simp [hk]
      have k13 : (y.kind == 13) = false := by simp [hk]
      have k14 : (y.kind == 14) = false := by simp [hk]
      clear hk
      obtain ⟨⟨m0, m1, m2, m3, m4, m5, m6, m7, m8, m9, m10, m11, m12, m13, m14, m15, m16, m17⟩, ml, -⟩ := Blk.all18 (G2.out.blk (List.mem_cons_self ..))
      go_wp2_with fail
      refine (ek_texts G2.out [y.name, y.word] (by intro n hn; simp at hn; rcases hn with rfl | rfl <;> first | exact HM.out.2.1.name | exact HM.out.2.1.word) (by simp)).mono ?_
      rintro e X3 ⟨rfl, t3⟩
      have G3 := Lib.hid t3
      clear t3
      clear m0 m1 m2 m3 m4 m5 m6 m7 m8 m9 m10 m11 m12 m13 m14 m15 m16 m17 ml
      as_aux_lemma =>
       have HST : Hid ([y.name, y.word].foldl wtext (encHead y) = encTail y (encHead y)) := Lib.hid (by simp [encTail, HKN.out])
       have HBD : Hid (badC y = false) := by
        have hn := clean_nolists (x := y) (by rw [HKN.out]; decide)
        rw [HM.out.1.clean] at hn
        simp [badC, hn.2.1, hn.2.2]
        exact trivial
       have GE : Hid (Ek V _ [(bc, 44, #[.int .i64 y.client, .int .i64 y.seq, .string ⟨y.token.toArray⟩, .int .i64 y.kind, .string ⟨y.name.toArray⟩, .string ⟨y.other.toArray⟩, .string ⟨y.word.toArray⟩, .string ⟨y.salt.toArray⟩, .int .i64 y.bytes, .int .i64 y.keys, .string ⟨y.gf.toArray⟩, .string ⟨y.gt.toArray⟩, .bool y.gr, .bool y.gw, .int .i64 y.rev, .slice a1 y.ifs.length c1, .slice a2 y.thens.length c2, .slice a3 y.elses.length c3])] p (badC y) (encTail y (encHead y))) := Lib.hid (by rw [← HST.out, HBD.out]; exact G3.out)
       go_wp2_with fail
       go_meet
       first | exact GE | exact GE.out
    ·as_aux_lemma =>
      have HKN := Lib.hid hk
      have k1 : (y.kind == 1) = false := by simp [hk]
      have k2 : (y.kind == 2) = true := by simp [hk]
      have k3 : (y.kind == 3) = false := by simp [hk]
      have k4 : (y.kind == 4) = false := by simp [hk]
      have k5 : (y.kind == 5) = false := by simp [hk]
      have k6 : (y.kind == 6) = false := by simp [hk]
      have k7 : (y.kind == 7) = false := by simp [hk]
      have k8 : (y.kind == 8) = false := by simp [hk]
      have k9 : (y.kind == 9) = false := by simp [hk]
      have k10 : (y.kind == 10) = false := by simp [hk]
      have k11 : (y.kind == 11) = false := by simp [hk]
      have k12 : (y.kind == 12) = false := by simp [hk]
      have k13 : (y.kind == 13) = false := by simp [hk]
      have k14 : (y.kind == 14) = false := by simp [hk]
      clear hk
      have HL : Hid (y.ifs.length ≤ 1099511627776 ∧ y.thens.length ≤ 1099511627776 ∧ y.elses.length ≤ 1099511627776) := Lib.hid (by have q1 := HM.out.2.2.1.i; have q2 := HM.out.2.2.1.t; have q3 := HM.out.2.2.1.e; omega)
      have hlb : (y.ifs.length : Int) < 9223372036854775808 := by have := HL.out; omega
      obtain ⟨⟨m0, m1, m2, m3, m4, m5, m6, m7, m8, m9, m10, m11, m12, m13, m14, m15, m16, m17⟩, ml, -⟩ := Blk.all18 (G2.out.blk (List.mem_cons_self ..))
      go_upto_region 11 with fail
      clear m0 m1 m2 m3 m4 m5 m6 m7 m8 m9 m10 m11 m12 m13 m14 m15 m16 m17 ml
      have G2d := Lib.hid (G2.out.quiet ((Step.refl [] _).drew))
      refine wp_region_held_drew (S := fun V => Hid (Blk V bc 44 #[.int .i64 y.client, .int .i64 y.seq, .string ⟨y.token.toArray⟩, .int .i64 y.kind, .string ⟨y.name.toArray⟩, .string ⟨y.other.toArray⟩, .string ⟨y.word.toArray⟩, .string ⟨y.salt.toArray⟩, .int .i64 y.bytes, .int .i64 y.keys, .string ⟨y.gf.toArray⟩, .string ⟨y.gt.toArray⟩, .bool y.gr, .bool y.gw, .int .i64 y.rev, .slice a1 y.ifs.length c1, .slice a2 y.thens.length c2, .slice a3 y.elses.length c3])) (by kernel_rfl) (Lib.hid (G2d.out.blk (List.mem_cons_self ..))) (fun hHeld => ?_)
      refine wpAnyH_take (i := 0) (v := ?_) rfl (by kernel_rfl) (by kernel_rfl) (by kernel_rfl) (fun _ _ _ h => h) (Or.inl ⟨by rfl, ?_⟩) hHeld ?_
      rotate_left
      ·intro w hSw1
       try dsimp only at hSw1
       go_simp
       try (with_reducible rfl)
      try simp only [Act.put, LsA, LsB, LsC, LsD, LsE, LsF]
      refine wpAnyH_take (i := 1) (v := ?_) rfl (by kernel_rfl) (by kernel_rfl) (by kernel_rfl) (fun _ _ _ h => h) (Or.inl ⟨by rfl, ?_⟩) hHeld ?_
      rotate_left
      ·intro w hSw1
       try dsimp only at hSw1
       go_simp
       try (with_reducible rfl)
      try simp only [Act.put, LsA, LsB, LsC, LsD, LsE, LsF]
      refine wpAnyH_take (i := 2) (v := ?_) rfl (by kernel_rfl) (by kernel_rfl) (by kernel_rfl) (fun _ _ _ h => h) (Or.inl ⟨by rfl, ?_⟩) hHeld ?_
      rotate_left
      ·intro w hSw1
       try dsimp only at hSw1
       go_simp
       try (with_reducible rfl)
      try simp only [Act.put, LsA, LsB, LsC, LsD, LsE, LsF]
      refine wpAnyH_take (i := 3) (v := ?_) rfl (by kernel_rfl) (by kernel_rfl) (by kernel_rfl) (fun _ _ _ h => h) (Or.inl ⟨by rfl, ?_⟩) hHeld ?_
      rotate_left
      ·intro w hSw1
       try dsimp only at hSw1
       go_simp
       try (with_reducible rfl)
      try simp only [Act.put, LsA, LsB, LsC, LsD, LsE, LsF]
      refine wpAnyH_take (i := 4) (v := ?_) rfl (by kernel_rfl) (by kernel_rfl) (by kernel_rfl) (fun _ _ _ h => h) (Or.inl ⟨by rfl, ?_⟩) hHeld ?_
      rotate_left
      ·intro w hSw1
       have tc := hSw1.out.cell 15
       simp only [List.getElem?_toArray, List.getElem?_cons_zero, List.getElem?_cons_succ] at tc
       have tl := hSw1.out.lt
       go_simp
       try (with_reducible rfl)
      try simp only [Act.put, LsA, LsB, LsC, LsD, LsE, LsF]
      refine wpAnyH_take (i := 5) (v := ?_) rfl (by kernel_rfl) (by kernel_rfl) (by kernel_rfl) (fun _ _ _ h => h) (Or.inl ⟨by rfl, ?_⟩) hHeld ?_
      rotate_left
      ·intro w hSw1
       try dsimp only at hSw1
       go_simp
       try (with_reducible rfl)
      try simp only [Act.put, LsA, LsB, LsC, LsD, LsE, LsF]
      refine wpAnyH_ready (rs := [6]) (by kernel_rfl) (by simp) ?_
      refine AllReadyH.cons rfl (fun K hK => ?_) AllReadyH.nil
      go_simp
      refine (ek_num G2d.out y.ifs.length hlb).mono ?_; rintro e X1 ⟨rfl, t⟩; have G3 := Lib.hid t; clear t
      go_wp2_with fail
      refine hK.out _ _ (Lib.hid (G3.out.blk (List.mem_cons_self ..))) (fun hHeld2 => ?_)
      clear hK K hHeld
      try simp only [Act.put, LsA, LsB, LsC, LsD, LsE, LsF]
      refine wpAnyH_done (by kernel_rfl) ?_ _
      as_aux_lemma =>
       obtain ⟨⟨m0, m1, m2, m3, m4, m5, m6, m7, m8, m9, m10, m11, m12, m13, m14, m15, m16, m17⟩, ml, -⟩ := Blk.all18 (G3.out.blk (List.mem_cons_self ..))
       go_wp2_with fail
       clear m0 m1 m2 m3 m4 m5 m6 m7 m8 m9 m10 m11 m12 m13 m14 m15 m16 m17 ml
       clear G2 G2d
       go_loopw [63] (fun i W => ∃ k : Nat, i = .int .i64 k ∧ k ≤ y.ifs.length ∧ Hid (Ek V W [(bc, 44, #[.int .i64 y.client, .int .i64 y.seq, .string ⟨y.token.toArray⟩, .int .i64 y.kind, .string ⟨y.name.toArray⟩, .string ⟨y.other.toArray⟩, .string ⟨y.word.toArray⟩, .string ⟨y.salt.toArray⟩, .int .i64 y.bytes, .int .i64 y.keys, .string ⟨y.gf.toArray⟩, .string ⟨y.gt.toArray⟩, .bool y.gr, .bool y.gw, .int .i64 y.rev, .slice a1 y.ifs.length c1, .slice a2 y.thens.length c2, .slice a3 y.elses.length c3])] p false ((y.ifs.take k).foldl wcmp (wnum (encHead y) y.ifs.length)))) (fun i _ => y.ifs.length - (intOf i).toNat)
       case atStart => exact ⟨0, rfl, by omega, Lib.hid (by rw [List.take_zero]; exact G3.out)⟩
       case round =>
        clear G3
        rename World => W
        obtain ⟨k, rfl, hk, HW⟩ := hrel
        by_cases hlt : k < y.ifs.length
        ·have hlt' : (k : Int) < y.ifs.length := by omega
         obtain ⟨c, hc⟩ : ∃ c, y.ifs[k]? = some c := ⟨_, List.getElem?_eq_getElem hlt⟩
         have hrd := HRC.out.i.step0 HW.out.out
         obtain ⟨g, off, hsa⟩ := hrd.some_ (by omega)
         rw [hsa] at hrd
         have cd := rd_cp hrd hc
         have gl : g < W.heap.size := by have := World.block_lt_of_cell? _ _ cd.1; simpa using this
         have HCB := Lib.hid (HM.out.2.1.ifs c (List.mem_of_getElem? hc))
         have HTF := Lib.hid (take_foldl wcmp (wnum (encHead y) y.ifs.length) y.ifs k c hc)
         clear hc hrd
         obtain ⟨q, hq⟩ : ∃ q, q = (y.ifs.take k).foldl wcmp (wnum (encHead y) y.ifs.length) := ⟨_, rfl⟩
         rw [← hq] at HW HTF
         clear hq
         subst hsa
         go_upto_region 15 with fail
         obtain ⟨eb, heb⟩ : ∃ eb, eb = W.heap.size := ⟨_, rfl⟩
         obtain ⟨W1, hW1⟩ : ∃ W1, W1 = W.alloc (.cells (cpc c).toArray 110) := ⟨_, rfl⟩
         have G0 : Hid (Ek V W1.drew ((eb, 110, (cpc c).toArray) :: [(bc, 44, #[.int .i64 y.client, .int .i64 y.seq, .string ⟨y.token.toArray⟩, .int .i64 y.kind, .string ⟨y.name.toArray⟩, .string ⟨y.other.toArray⟩, .string ⟨y.word.toArray⟩, .string ⟨y.salt.toArray⟩, .int .i64 y.bytes, .int .i64 y.keys, .string ⟨y.gf.toArray⟩, .string ⟨y.gt.toArray⟩, .bool y.gr, .bool y.gw, .int .i64 y.rev, .slice (some ⟨g, off, none⟩) y.ifs.length c1, .slice a2 y.thens.length c2, .slice a3 y.elses.length c3])]) p false q) := Lib.hid (by rw [hW1, heb]; exact (HW.out.push 110 (cpc c).toArray).quiet ((Step.refl [] _).drew))
         rw [show W.alloc (.cells #[.string ⟨c.key.toArray⟩, .int .i64 c.what, .int .i64 c.rev, .string ⟨c.val.toArray⟩] 110) = W1 from hW1.symm, ← heb]
         clear hW1 heb cd gl HW
         refine wp_region_held_drew (S := fun V => Hid (Blk V eb 110 (cpc c).toArray)) (by kernel_rfl) (Lib.hid (G0.out.blk (List.mem_cons_self ..))) (fun hHeld => ?_)
         refine wpAnyH_take (i := 0) (v := ?_) rfl (by kernel_rfl) (by kernel_rfl) (by kernel_rfl) (fun _ _ _ h => h) (Or.inl ⟨by rfl, ?_⟩) hHeld ?_
         rotate_left
         ·intro w hSw1
          try dsimp only at hSw1
          go_simp
          try (with_reducible rfl)
         try simp only [Act.put, LsA, LsB, LsC, LsD, LsE, LsF]
         refine wpAnyH_take (i := 1) (v := ?_) rfl (by kernel_rfl) (by kernel_rfl) (by kernel_rfl) (fun _ _ _ h => h) (Or.inl ⟨by rfl, ?_⟩) hHeld ?_
         rotate_left
         ·intro w hSw1
          try dsimp only at hSw1
          go_simp
          try (with_reducible rfl)
         try simp only [Act.put, LsA, LsB, LsC, LsD, LsE, LsF]
         refine wpAnyH_take (i := 2) (v := ?_) rfl (by kernel_rfl) (by kernel_rfl) (by kernel_rfl) (fun _ _ _ h => h) (Or.inl ⟨by rfl, ?_⟩) hHeld ?_
         rotate_left
         ·intro w hSw1
          try dsimp only at hSw1
          go_simp
          try (with_reducible rfl)
         try simp only [Act.put, LsA, LsB, LsC, LsD, LsE, LsF]
         refine wpAnyH_take (i := 3) (v := ?_) rfl (by kernel_rfl) (by kernel_rfl) (by kernel_rfl) (fun _ _ _ h => h) (Or.inl ⟨by rfl, ?_⟩) hHeld ?_
         rotate_left
         ·intro w hSw1
          try dsimp only at hSw1
          go_simp
          try (with_reducible rfl)
         try simp only [Act.put, LsA, LsB, LsC, LsD, LsE, LsF]
         refine wpAnyH_take (i := 4) (v := ?_) rfl (by kernel_rfl) (by kernel_rfl) (by kernel_rfl) (fun _ _ _ h => h) (Or.inl ⟨by rfl, ?_⟩) hHeld ?_
         rotate_left
         ·intro w hSw1
          have tc := hSw1.out.cell 0
          simp only [cpc, List.getElem?_toArray, List.getElem?_cons_zero, List.getElem?_cons_succ] at tc
          have tl := hSw1.out.lt
          go_simp
          try (with_reducible rfl)
         try simp only [Act.put, LsA, LsB, LsC, LsD, LsE, LsF]
         refine wpAnyH_ready (rs := [5]) (by kernel_rfl) (by simp) ?_
         refine AllReadyH.cons rfl (fun K hK => ?_) AllReadyH.nil
         go_simp
         refine (ek_text G0.out c.key HCB.out.key).mono ?_; rintro e X2 ⟨rfl, t⟩; have G4 := Lib.hid t; clear t
         go_wp2_with fail
         refine hK.out _ _ (Lib.hid (G4.out.blk (List.mem_cons_self ..))) (fun hHeld2 => ?_)
         clear hK K hHeld
         try simp only [Act.put, LsA, LsB, LsC, LsD, LsE, LsF]
         refine wpAnyH_done (by kernel_rfl) ?_ _
         as_aux_lemma =>
          have vc := (G4.out.blk (List.mem_cons_self ..)).cell
          have v0 := vc 0
          have v1 := vc 1
          have v2 := vc 2
          have v3 := vc 3
          clear vc
          simp only [cpc, List.getElem?_toArray, List.getElem?_cons_zero, List.getElem?_cons_succ] at v0 v1 v2 v3
          have vl := (G4.out.blk (List.mem_cons_self ..)).lt
          go_wp2_with fail
          refine (ek_nums G4.out [c.what, c.rev] (by intro n hn; simp at hn; rcases hn with rfl | rfl; exact HCB.out.what; exact HCB.out.rev) (by simp)).mono ?_
          rintro e X3 ⟨rfl, t⟩
          have G5 := Lib.hid t
          clear t v0 v1 v2 v3 vl
          go_upto_region 17 with fail
          have G5d := Lib.hid (G5.out.quiet ((Step.refl [] _).drew))
          refine wp_region_held_drew (S := fun V => Hid (Blk V eb 110 (cpc c).toArray)) (by kernel_rfl) (Lib.hid (G5d.out.blk (List.mem_cons_self ..))) (fun hHeld => ?_)
          refine wpAnyH_take (i := 0) (v := ?_) rfl (by kernel_rfl) (by kernel_rfl) (by kernel_rfl) (fun _ _ _ h => h) (Or.inl ⟨by rfl, ?_⟩) hHeld ?_
          rotate_left
          ·intro w hSw1
           try dsimp only at hSw1
           go_simp
           try (with_reducible rfl)
          try simp only [Act.put, LsA, LsB, LsC, LsD, LsE, LsF]
          refine wpAnyH_take (i := 1) (v := ?_) rfl (by kernel_rfl) (by kernel_rfl) (by kernel_rfl) (fun _ _ _ h => h) (Or.inl ⟨by rfl, ?_⟩) hHeld ?_
          rotate_left
          ·intro w hSw1
           try dsimp only at hSw1
           go_simp
           try (with_reducible rfl)
          try simp only [Act.put, LsA, LsB, LsC, LsD, LsE, LsF]
          refine wpAnyH_take (i := 2) (v := ?_) rfl (by kernel_rfl) (by kernel_rfl) (by kernel_rfl) (fun _ _ _ h => h) (Or.inl ⟨by rfl, ?_⟩) hHeld ?_
          rotate_left
          ·intro w hSw1
           try dsimp only at hSw1
           go_simp
           try (with_reducible rfl)
          try simp only [Act.put, LsA, LsB, LsC, LsD, LsE, LsF]
          refine wpAnyH_take (i := 3) (v := ?_) rfl (by kernel_rfl) (by kernel_rfl) (by kernel_rfl) (fun _ _ _ h => h) (Or.inl ⟨by rfl, ?_⟩) hHeld ?_
          rotate_left
          ·intro w hSw1
           try dsimp only at hSw1
           go_simp
           try (with_reducible rfl)
          try simp only [Act.put, LsA, LsB, LsC, LsD, LsE, LsF]
          refine wpAnyH_take (i := 4) (v := ?_) rfl (by kernel_rfl) (by kernel_rfl) (by kernel_rfl) (fun _ _ _ h => h) (Or.inl ⟨by rfl, ?_⟩) hHeld ?_
          rotate_left
          ·intro w hSw1
           have tc := hSw1.out.cell 3
           simp only [cpc, List.getElem?_toArray, List.getElem?_cons_zero, List.getElem?_cons_succ] at tc
           have tl := hSw1.out.lt
           go_simp
           try (with_reducible rfl)
          try simp only [Act.put, LsA, LsB, LsC, LsD, LsE, LsF]
          refine wpAnyH_ready (rs := [5]) (by kernel_rfl) (by simp) ?_
          refine AllReadyH.cons rfl (fun K hK => ?_) AllReadyH.nil
          go_simp
          refine (ek_text G5d.out c.val HCB.out.val).mono ?_; rintro e X4 ⟨rfl, t⟩; have G6 := Lib.hid t; clear t
          go_wp2_with fail
          refine hK.out _ _ (Lib.hid (G6.out.blk (List.mem_cons_self ..))) (fun hHeld2 => ?_)
          clear hK K hHeld
          try simp only [Act.put, LsA, LsB, LsC, LsD, LsE, LsF]
          refine wpAnyH_done (by kernel_rfl) ?_ _
          go_wp2_with fail
          go_roundw
          case rel => exact ⟨k + 1, by go_num, by omega, Lib.hid (by rw [HTF.out]; exact G6.out.drop (fun q hq => List.mem_cons_of_mem _ hq))⟩
          case measure => simp [intOf]; omega
        ·obtain rfl : k = y.ifs.length := by omega
         have G7 : Hid (Ek V W [(bc, 44, #[.int .i64 y.client, .int .i64 y.seq, .string ⟨y.token.toArray⟩, .int .i64 y.kind, .string ⟨y.name.toArray⟩, .string ⟨y.other.toArray⟩, .string ⟨y.word.toArray⟩, .string ⟨y.salt.toArray⟩, .int .i64 y.bytes, .int .i64 y.keys, .string ⟨y.gf.toArray⟩, .string ⟨y.gt.toArray⟩, .bool y.gr, .bool y.gw, .int .i64 y.rev, .slice a1 y.ifs.length c1, .slice a2 y.thens.length c2, .slice a3 y.elses.length c3])] p false (y.ifs.foldl wcmp (wnum (encHead y) y.ifs.length))) := by
          have := HW.out
          rw [List.take_length] at this
          exact this
         clear HW
         obtain ⟨⟨m0, m1, m2, m3, m4, m5, m6, m7, m8, m9, m10, m11, m12, m13, m14, m15, m16, m17⟩, ml, -⟩ := Blk.all18 (G7.out.blk (List.mem_cons_self ..))
         go_wp2_with fail
         refine (acts_any G7.out y.thens a2 _ HRC.out.t HM.out.2.1.thens HL.out.2.1).mono ?_
         rintro e X5 ⟨rfl, t⟩
         have G8 := Lib.hid t
         clear t m0 m1 m2 m3 m4 m5 m6 m7 m8 m9 m10 m11 m12 m13 m14 m15 m16 m17 ml
         as_aux_lemma =>
          obtain ⟨⟨m0, m1, m2, m3, m4, m5, m6, m7, m8, m9, m10, m11, m12, m13, m14, m15, m16, m17⟩, ml, -⟩ := Blk.all18 (G8.out.blk (List.mem_cons_self ..))
          go_wp2_with fail
          refine (acts_any G8.out y.elses a3 _ HRC.out.e HM.out.2.1.elses HL.out.2.2).mono ?_
          rintro e X6 ⟨rfl, t⟩
          have G9 := Lib.hid t
          clear t m0 m1 m2 m3 m4 m5 m6 m7 m8 m9 m10 m11 m12 m13 m14 m15 m16 m17 ml
          have HST : Hid (wacts (wacts (y.ifs.foldl wcmp (wnum (encHead y) y.ifs.length)) y.thens) y.elses = encTail y (encHead y)) := Lib.hid (by simp [encTail, HKN.out])
          have GE : Hid (Ek V _ [(bc, 44, #[.int .i64 y.client, .int .i64 y.seq, .string ⟨y.token.toArray⟩, .int .i64 y.kind, .string ⟨y.name.toArray⟩, .string ⟨y.other.toArray⟩, .string ⟨y.word.toArray⟩, .string ⟨y.salt.toArray⟩, .int .i64 y.bytes, .int .i64 y.keys, .string ⟨y.gf.toArray⟩, .string ⟨y.gt.toArray⟩, .bool y.gr, .bool y.gw, .int .i64 y.rev, .slice a1 y.ifs.length c1, .slice a2 y.thens.length c2, .slice a3 y.elses.length c3])] p (badC y) (encTail y (encHead y))) := Lib.hid (by rw [← HST.out, badC, ← Bool.false_or (y.thens.any badA)]; exact G9.out)
          go_wp2_with fail
          go_meet
          first | exact GE | exact GE.out
    ·as_aux_lemma =>
      have HKN := Lib.hid hk
      have k1 : (y.kind == 1) = false := by simp [hk]
      have k2 : (y.kind == 2) = false := by simp [hk]
      have k3 : (y.kind == 3) = true := by simp [hk]
      have k4 : (y.kind == 4) = false := by simp [hk]
      have k5 : (y.kind == 5) = false := by simp [hk]
      have k6 : (y.kind == 6) = false := by simp [hk]
      have k7 : (y.kind == 7) = false := by simp [hk]
      have k8 : (y.kind == 8) = false := by simp [hk]
      have k9 : (y.kind == 9) = false := by simp [hk]
      have k10 : (y.kind == 10) = false := by simp [hk]
      have k11 : (y.kind == 11) = false := by simp [hk]
      have k12 : (y.kind == 12) = false := by simp [hk]
      have k13 : (y.kind == 13) = false := by simp [hk]
      have k14 : (y.kind == 14) = false := by simp [hk]
      clear hk
      obtain ⟨⟨m0, m1, m2, m3, m4, m5, m6, m7, m8, m9, m10, m11, m12, m13, m14, m15, m16, m17⟩, ml, -⟩ := Blk.all18 (G2.out.blk (List.mem_cons_self ..))
      go_upto_region 22 with fail
      clear m0 m1 m2 m3 m4 m5 m6 m7 m8 m9 m10 m11 m12 m13 m14 m15 m16 m17 ml
      have G4d := Lib.hid (G2.out.quiet ((Step.refl [] _).drew))
      refine wp_region_held_drew (S := fun V => Hid (Blk V bc 44 #[.int .i64 y.client, .int .i64 y.seq, .string ⟨y.token.toArray⟩, .int .i64 y.kind, .string ⟨y.name.toArray⟩, .string ⟨y.other.toArray⟩, .string ⟨y.word.toArray⟩, .string ⟨y.salt.toArray⟩, .int .i64 y.bytes, .int .i64 y.keys, .string ⟨y.gf.toArray⟩, .string ⟨y.gt.toArray⟩, .bool y.gr, .bool y.gw, .int .i64 y.rev, .slice a1 y.ifs.length c1, .slice a2 y.thens.length c2, .slice a3 y.elses.length c3])) (by kernel_rfl) (Lib.hid (G4d.out.blk (List.mem_cons_self ..))) (fun hHeld => ?_)
      refine wpAnyH_take (i := 0) (v := ?_) rfl (by kernel_rfl) (by kernel_rfl) (by kernel_rfl) (fun _ _ _ h => h) (Or.inl ⟨by rfl, ?_⟩) hHeld ?_
      rotate_left
      ·intro w hSw1
       try dsimp only at hSw1
       go_simp
       try (with_reducible rfl)
      try simp only [Act.put, LsA, LsB, LsC, LsD, LsE, LsF]
      refine wpAnyH_take (i := 1) (v := ?_) rfl (by kernel_rfl) (by kernel_rfl) (by kernel_rfl) (fun _ _ _ h => h) (Or.inl ⟨by rfl, ?_⟩) hHeld ?_
      rotate_left
      ·intro w hSw1
       try dsimp only at hSw1
       go_simp
       try (with_reducible rfl)
      try simp only [Act.put, LsA, LsB, LsC, LsD, LsE, LsF]
      refine wpAnyH_take (i := 2) (v := ?_) rfl (by kernel_rfl) (by kernel_rfl) (by kernel_rfl) (fun _ _ _ h => h) (Or.inl ⟨by rfl, ?_⟩) hHeld ?_
      rotate_left
      ·intro w hSw1
       try dsimp only at hSw1
       go_simp
       try (with_reducible rfl)
      try simp only [Act.put, LsA, LsB, LsC, LsD, LsE, LsF]
      refine wpAnyH_take (i := 3) (v := ?_) rfl (by kernel_rfl) (by kernel_rfl) (by kernel_rfl) (fun _ _ _ h => h) (Or.inl ⟨by rfl, ?_⟩) hHeld ?_
      rotate_left
      ·intro w hSw1
       try dsimp only at hSw1
       go_simp
       try (with_reducible rfl)
      try simp only [Act.put, LsA, LsB, LsC, LsD, LsE, LsF]
      refine wpAnyH_take (i := 4) (v := ?_) rfl (by kernel_rfl) (by kernel_rfl) (by kernel_rfl) (fun _ _ _ h => h) (Or.inl ⟨by rfl, ?_⟩) hHeld ?_
      rotate_left
      ·intro w hSw1
       have tc := hSw1.out.cell 14
       simp only [List.getElem?_toArray, List.getElem?_cons_zero, List.getElem?_cons_succ] at tc
       have tl := hSw1.out.lt
       go_simp
       try (with_reducible rfl)
      try simp only [Act.put, LsA, LsB, LsC, LsD, LsE, LsF]
      refine wpAnyH_ready (rs := [5]) (by kernel_rfl) (by simp) ?_
      refine AllReadyH.cons rfl (fun K hK => ?_) AllReadyH.nil
      go_simp
      refine (ek_num G4d.out y.rev HM.out.2.1.rev).mono ?_; rintro e X4 ⟨rfl, t4⟩; have G4 := Lib.hid t4; clear t4
      go_wp2_with fail
      refine hK.out _ _ (Lib.hid (G4.out.blk (List.mem_cons_self ..))) (fun hHeld2 => ?_)
      clear hK K hHeld
      try simp only [Act.put, LsA, LsB, LsC, LsD, LsE, LsF]
      refine wpAnyH_done (by kernel_rfl) ?_ _
      as_aux_lemma =>
       have HST : Hid (wnum (encHead y) y.rev = encTail y (encHead y)) := Lib.hid (by simp [encTail, HKN.out])
       have HBD : Hid (badC y = false) := by
        have hn := clean_nolists (x := y) (by rw [HKN.out]; decide)
        rw [HM.out.1.clean] at hn
        simp [badC, hn.2.1, hn.2.2]
        exact trivial
       have GE : Hid (Ek V _ [(bc, 44, #[.int .i64 y.client, .int .i64 y.seq, .string ⟨y.token.toArray⟩, .int .i64 y.kind, .string ⟨y.name.toArray⟩, .string ⟨y.other.toArray⟩, .string ⟨y.word.toArray⟩, .string ⟨y.salt.toArray⟩, .int .i64 y.bytes, .int .i64 y.keys, .string ⟨y.gf.toArray⟩, .string ⟨y.gt.toArray⟩, .bool y.gr, .bool y.gw, .int .i64 y.rev, .slice a1 y.ifs.length c1, .slice a2 y.thens.length c2, .slice a3 y.elses.length c3])] p (badC y) (encTail y (encHead y))) := Lib.hid (by rw [← HST.out, HBD.out]; exact G4.out)
       go_wp2_with fail
       go_meet
       first | exact GE | exact GE.out
    ·as_aux_lemma =>
      have HKN := Lib.hid hk
      have k1 : (y.kind == 1) = false := by simp [hk]
      have k2 : (y.kind == 2) = false := by simp [hk]
      have k3 : (y.kind == 3) = false := by simp [hk]
      have k4 : (y.kind == 4) = true := by simp [hk]
      have k5 : (y.kind == 5) = false := by simp [hk]
      have k6 : (y.kind == 6) = false := by simp [hk]
      have k7 : (y.kind == 7) = false := by simp [hk]
      have k8 : (y.kind == 8) = false := by simp [hk]
      have k9 : (y.kind == 9) = false := by simp [hk]
      have k10 : (y.kind == 10) = false := by simp [hk]
      have k11 : (y.kind == 11) = false := by simp [hk]
      have k12 : (y.kind == 12) = false := by simp [hk]
      have k13 : (y.kind == 13) = false := by simp [hk]
      have k14 : (y.kind == 14) = false := by simp [hk]
      clear hk
      obtain ⟨⟨m0, m1, m2, m3, m4, m5, m6, m7, m8, m9, m10, m11, m12, m13, m14, m15, m16, m17⟩, ml, -⟩ := Blk.all18 (G2.out.blk (List.mem_cons_self ..))
      go_upto_region 25 with fail
      clear m0 m1 m2 m3 m4 m5 m6 m7 m8 m9 m10 m11 m12 m13 m14 m15 m16 m17 ml
      have G5d := Lib.hid (G2.out.quiet ((Step.refl [] _).drew))
      refine wp_region_held_drew (S := fun V => Hid (Blk V bc 44 #[.int .i64 y.client, .int .i64 y.seq, .string ⟨y.token.toArray⟩, .int .i64 y.kind, .string ⟨y.name.toArray⟩, .string ⟨y.other.toArray⟩, .string ⟨y.word.toArray⟩, .string ⟨y.salt.toArray⟩, .int .i64 y.bytes, .int .i64 y.keys, .string ⟨y.gf.toArray⟩, .string ⟨y.gt.toArray⟩, .bool y.gr, .bool y.gw, .int .i64 y.rev, .slice a1 y.ifs.length c1, .slice a2 y.thens.length c2, .slice a3 y.elses.length c3])) (by kernel_rfl) (Lib.hid (G5d.out.blk (List.mem_cons_self ..))) (fun hHeld => ?_)
      refine wpAnyH_take (i := 0) (v := ?_) rfl (by kernel_rfl) (by kernel_rfl) (by kernel_rfl) (fun _ _ _ h => h) (Or.inl ⟨by rfl, ?_⟩) hHeld ?_
      rotate_left
      ·intro w hSw1
       try dsimp only at hSw1
       go_simp
       try (with_reducible rfl)
      try simp only [Act.put, LsA, LsB, LsC, LsD, LsE, LsF]
      refine wpAnyH_take (i := 1) (v := ?_) rfl (by kernel_rfl) (by kernel_rfl) (by kernel_rfl) (fun _ _ _ h => h) (Or.inl ⟨by rfl, ?_⟩) hHeld ?_
      rotate_left
      ·intro w hSw1
       try dsimp only at hSw1
       go_simp
       try (with_reducible rfl)
      try simp only [Act.put, LsA, LsB, LsC, LsD, LsE, LsF]
      refine wpAnyH_take (i := 2) (v := ?_) rfl (by kernel_rfl) (by kernel_rfl) (by kernel_rfl) (fun _ _ _ h => h) (Or.inl ⟨by rfl, ?_⟩) hHeld ?_
      rotate_left
      ·intro w hSw1
       try dsimp only at hSw1
       go_simp
       try (with_reducible rfl)
      try simp only [Act.put, LsA, LsB, LsC, LsD, LsE, LsF]
      refine wpAnyH_take (i := 3) (v := ?_) rfl (by kernel_rfl) (by kernel_rfl) (by kernel_rfl) (fun _ _ _ h => h) (Or.inl ⟨by rfl, ?_⟩) hHeld ?_
      rotate_left
      ·intro w hSw1
       try dsimp only at hSw1
       go_simp
       try (with_reducible rfl)
      try simp only [Act.put, LsA, LsB, LsC, LsD, LsE, LsF]
      refine wpAnyH_take (i := 4) (v := ?_) rfl (by kernel_rfl) (by kernel_rfl) (by kernel_rfl) (fun _ _ _ h => h) (Or.inl ⟨by rfl, ?_⟩) hHeld ?_
      rotate_left
      ·intro w hSw1
       have tc := hSw1.out.cell 4
       simp only [List.getElem?_toArray, List.getElem?_cons_zero, List.getElem?_cons_succ] at tc
       have tl := hSw1.out.lt
       go_simp
       try (with_reducible rfl)
      try simp only [Act.put, LsA, LsB, LsC, LsD, LsE, LsF]
      refine wpAnyH_ready (rs := [5]) (by kernel_rfl) (by simp) ?_
      refine AllReadyH.cons rfl (fun K hK => ?_) AllReadyH.nil
      go_simp
      refine (ek_text G5d.out y.name HM.out.2.1.name).mono ?_; rintro e X5 ⟨rfl, t5⟩; have G5 := Lib.hid t5; clear t5
      go_wp2_with fail
      refine hK.out _ _ (Lib.hid (G5.out.blk (List.mem_cons_self ..))) (fun hHeld2 => ?_)
      clear hK K hHeld
      try simp only [Act.put, LsA, LsB, LsC, LsD, LsE, LsF]
      refine wpAnyH_done (by kernel_rfl) ?_ _
      as_aux_lemma =>
       obtain ⟨⟨m0, m1, m2, m3, m4, m5, m6, m7, m8, m9, m10, m11, m12, m13, m14, m15, m16, m17⟩, ml, -⟩ := Blk.all18 (G5.out.blk (List.mem_cons_self ..))
       go_wp2_with fail
       refine (ek_nums G5.out [y.bytes, y.keys] (by intro n hn; simp at hn; rcases hn with rfl | rfl <;> first | exact HM.out.2.1.bytes | exact HM.out.2.1.keys) (by simp)).mono ?_
       rintro e X6 ⟨rfl, t6⟩
       have G6 := Lib.hid t6
       clear t6
       clear m0 m1 m2 m3 m4 m5 m6 m7 m8 m9 m10 m11 m12 m13 m14 m15 m16 m17 ml
       as_aux_lemma =>
        have HST : Hid ([y.bytes, y.keys].foldl wnum (wtext (encHead y) y.name) = encTail y (encHead y)) := Lib.hid (by simp [encTail, HKN.out])
        have HBD : Hid (badC y = false) := by
         have hn := clean_nolists (x := y) (by rw [HKN.out]; decide)
         rw [HM.out.1.clean] at hn
         simp [badC, hn.2.1, hn.2.2]
         exact trivial
        have GE : Hid (Ek V _ [(bc, 44, #[.int .i64 y.client, .int .i64 y.seq, .string ⟨y.token.toArray⟩, .int .i64 y.kind, .string ⟨y.name.toArray⟩, .string ⟨y.other.toArray⟩, .string ⟨y.word.toArray⟩, .string ⟨y.salt.toArray⟩, .int .i64 y.bytes, .int .i64 y.keys, .string ⟨y.gf.toArray⟩, .string ⟨y.gt.toArray⟩, .bool y.gr, .bool y.gw, .int .i64 y.rev, .slice a1 y.ifs.length c1, .slice a2 y.thens.length c2, .slice a3 y.elses.length c3])] p (badC y) (encTail y (encHead y))) := Lib.hid (by rw [← HST.out, HBD.out]; exact G6.out)
        go_wp2_with fail
        go_meet
        first | exact GE | exact GE.out
    ·as_aux_lemma =>
      have HKN := Lib.hid hk
      have k1 : (y.kind == 1) = false := by simp [hk]
      have k2 : (y.kind == 2) = false := by simp [hk]
      have k3 : (y.kind == 3) = false := by simp [hk]
      have k4 : (y.kind == 4) = false := by simp [hk]
      have k5 : (y.kind == 5) = true := by simp [hk]
      have k6 : (y.kind == 6) = false := by simp [hk]
      have k7 : (y.kind == 7) = false := by simp [hk]
      have k8 : (y.kind == 8) = false := by simp [hk]
      have k9 : (y.kind == 9) = false := by simp [hk]
      have k10 : (y.kind == 10) = false := by simp [hk]
      have k11 : (y.kind == 11) = false := by simp [hk]
      have k12 : (y.kind == 12) = false := by simp [hk]
      have k13 : (y.kind == 13) = false := by simp [hk]
      have k14 : (y.kind == 14) = false := by simp [hk]
      clear hk
      obtain ⟨⟨m0, m1, m2, m3, m4, m5, m6, m7, m8, m9, m10, m11, m12, m13, m14, m15, m16, m17⟩, ml, -⟩ := Blk.all18 (G2.out.blk (List.mem_cons_self ..))
      go_upto_region 25 with fail
      clear m0 m1 m2 m3 m4 m5 m6 m7 m8 m9 m10 m11 m12 m13 m14 m15 m16 m17 ml
      have G7d := Lib.hid (G2.out.quiet ((Step.refl [] _).drew))
      refine wp_region_held_drew (S := fun V => Hid (Blk V bc 44 #[.int .i64 y.client, .int .i64 y.seq, .string ⟨y.token.toArray⟩, .int .i64 y.kind, .string ⟨y.name.toArray⟩, .string ⟨y.other.toArray⟩, .string ⟨y.word.toArray⟩, .string ⟨y.salt.toArray⟩, .int .i64 y.bytes, .int .i64 y.keys, .string ⟨y.gf.toArray⟩, .string ⟨y.gt.toArray⟩, .bool y.gr, .bool y.gw, .int .i64 y.rev, .slice a1 y.ifs.length c1, .slice a2 y.thens.length c2, .slice a3 y.elses.length c3])) (by kernel_rfl) (Lib.hid (G7d.out.blk (List.mem_cons_self ..))) (fun hHeld => ?_)
      refine wpAnyH_take (i := 0) (v := ?_) rfl (by kernel_rfl) (by kernel_rfl) (by kernel_rfl) (fun _ _ _ h => h) (Or.inl ⟨by rfl, ?_⟩) hHeld ?_
      rotate_left
      ·intro w hSw1
       try dsimp only at hSw1
       go_simp
       try (with_reducible rfl)
      try simp only [Act.put, LsA, LsB, LsC, LsD, LsE, LsF]
      refine wpAnyH_take (i := 1) (v := ?_) rfl (by kernel_rfl) (by kernel_rfl) (by kernel_rfl) (fun _ _ _ h => h) (Or.inl ⟨by rfl, ?_⟩) hHeld ?_
      rotate_left
      ·intro w hSw1
       try dsimp only at hSw1
       go_simp
       try (with_reducible rfl)
      try simp only [Act.put, LsA, LsB, LsC, LsD, LsE, LsF]
      refine wpAnyH_take (i := 2) (v := ?_) rfl (by kernel_rfl) (by kernel_rfl) (by kernel_rfl) (fun _ _ _ h => h) (Or.inl ⟨by rfl, ?_⟩) hHeld ?_
      rotate_left
      ·intro w hSw1
       try dsimp only at hSw1
       go_simp
       try (with_reducible rfl)
      try simp only [Act.put, LsA, LsB, LsC, LsD, LsE, LsF]
      refine wpAnyH_take (i := 3) (v := ?_) rfl (by kernel_rfl) (by kernel_rfl) (by kernel_rfl) (fun _ _ _ h => h) (Or.inl ⟨by rfl, ?_⟩) hHeld ?_
      rotate_left
      ·intro w hSw1
       try dsimp only at hSw1
       go_simp
       try (with_reducible rfl)
      try simp only [Act.put, LsA, LsB, LsC, LsD, LsE, LsF]
      refine wpAnyH_take (i := 4) (v := ?_) rfl (by kernel_rfl) (by kernel_rfl) (by kernel_rfl) (fun _ _ _ h => h) (Or.inl ⟨by rfl, ?_⟩) hHeld ?_
      rotate_left
      ·intro w hSw1
       have tc := hSw1.out.cell 4
       simp only [List.getElem?_toArray, List.getElem?_cons_zero, List.getElem?_cons_succ] at tc
       have tl := hSw1.out.lt
       go_simp
       try (with_reducible rfl)
      try simp only [Act.put, LsA, LsB, LsC, LsD, LsE, LsF]
      refine wpAnyH_ready (rs := [5]) (by kernel_rfl) (by simp) ?_
      refine AllReadyH.cons rfl (fun K hK => ?_) AllReadyH.nil
      go_simp
      refine (ek_text G7d.out y.name HM.out.2.1.name).mono ?_; rintro e X7 ⟨rfl, t7⟩; have G7 := Lib.hid t7; clear t7
      go_wp2_with fail
      refine hK.out _ _ (Lib.hid (G7.out.blk (List.mem_cons_self ..))) (fun hHeld2 => ?_)
      clear hK K hHeld
      try simp only [Act.put, LsA, LsB, LsC, LsD, LsE, LsF]
      refine wpAnyH_done (by kernel_rfl) ?_ _
      as_aux_lemma =>
       obtain ⟨⟨m0, m1, m2, m3, m4, m5, m6, m7, m8, m9, m10, m11, m12, m13, m14, m15, m16, m17⟩, ml, -⟩ := Blk.all18 (G7.out.blk (List.mem_cons_self ..))
       go_wp2_with fail
       refine (ek_nums G7.out [y.bytes, y.keys] (by intro n hn; simp at hn; rcases hn with rfl | rfl <;> first | exact HM.out.2.1.bytes | exact HM.out.2.1.keys) (by simp)).mono ?_
       rintro e X8 ⟨rfl, t8⟩
       have G8 := Lib.hid t8
       clear t8
       clear m0 m1 m2 m3 m4 m5 m6 m7 m8 m9 m10 m11 m12 m13 m14 m15 m16 m17 ml
       as_aux_lemma =>
        have HST : Hid ([y.bytes, y.keys].foldl wnum (wtext (encHead y) y.name) = encTail y (encHead y)) := Lib.hid (by simp [encTail, HKN.out])
        have HBD : Hid (badC y = false) := by
         have hn := clean_nolists (x := y) (by rw [HKN.out]; decide)
         rw [HM.out.1.clean] at hn
         simp [badC, hn.2.1, hn.2.2]
         exact trivial
        have GE : Hid (Ek V _ [(bc, 44, #[.int .i64 y.client, .int .i64 y.seq, .string ⟨y.token.toArray⟩, .int .i64 y.kind, .string ⟨y.name.toArray⟩, .string ⟨y.other.toArray⟩, .string ⟨y.word.toArray⟩, .string ⟨y.salt.toArray⟩, .int .i64 y.bytes, .int .i64 y.keys, .string ⟨y.gf.toArray⟩, .string ⟨y.gt.toArray⟩, .bool y.gr, .bool y.gw, .int .i64 y.rev, .slice a1 y.ifs.length c1, .slice a2 y.thens.length c2, .slice a3 y.elses.length c3])] p (badC y) (encTail y (encHead y))) := Lib.hid (by rw [← HST.out, HBD.out]; exact G8.out)
        go_wp2_with fail
        go_meet
        first | exact GE | exact GE.out
    ·as_aux_lemma =>
      have HKN := Lib.hid hk
      have k1 : (y.kind == 1) = false := by simp [hk]
      have k2 : (y.kind == 2) = false := by simp [hk]
      have k3 : (y.kind == 3) = false := by simp [hk]
      have k4 : (y.kind == 4) = false := by simp [hk]
      have k5 : (y.kind == 5) = false := by simp [hk]
      have k6 : (y.kind == 6) = true := by simp [hk]
      have k7 : (y.kind == 7) = false := by simp [hk]
      have k8 : (y.kind == 8) = false := by simp [hk]
      have k9 : (y.kind == 9) = false := by simp [hk]
      have k10 : (y.kind == 10) = false := by simp [hk]
      have k11 : (y.kind == 11) = false := by simp [hk]
      have k12 : (y.kind == 12) = false := by simp [hk]
      have k13 : (y.kind == 13) = false := by simp [hk]
      have k14 : (y.kind == 14) = false := by simp [hk]
      clear hk
      obtain ⟨⟨m0, m1, m2, m3, m4, m5, m6, m7, m8, m9, m10, m11, m12, m13, m14, m15, m16, m17⟩, ml, -⟩ := Blk.all18 (G2.out.blk (List.mem_cons_self ..))
      go_wp2_with fail
      refine (ek_texts G2.out [y.name, y.other, y.word, y.salt] (by intro n hn; simp at hn; rcases hn with rfl | rfl | rfl | rfl <;> first | exact HM.out.2.1.name | exact HM.out.2.1.other | exact HM.out.2.1.word | exact HM.out.2.1.salt) (by simp)).mono ?_
      rintro e X9 ⟨rfl, t9⟩
      have G9 := Lib.hid t9
      clear t9
      clear m0 m1 m2 m3 m4 m5 m6 m7 m8 m9 m10 m11 m12 m13 m14 m15 m16 m17 ml
      as_aux_lemma =>
       have HST : Hid ([y.name, y.other, y.word, y.salt].foldl wtext (encHead y) = encTail y (encHead y)) := Lib.hid (by simp [encTail, HKN.out])
       have HBD : Hid (badC y = false) := by
        have hn := clean_nolists (x := y) (by rw [HKN.out]; decide)
        rw [HM.out.1.clean] at hn
        simp [badC, hn.2.1, hn.2.2]
        exact trivial
       have GE : Hid (Ek V _ [(bc, 44, #[.int .i64 y.client, .int .i64 y.seq, .string ⟨y.token.toArray⟩, .int .i64 y.kind, .string ⟨y.name.toArray⟩, .string ⟨y.other.toArray⟩, .string ⟨y.word.toArray⟩, .string ⟨y.salt.toArray⟩, .int .i64 y.bytes, .int .i64 y.keys, .string ⟨y.gf.toArray⟩, .string ⟨y.gt.toArray⟩, .bool y.gr, .bool y.gw, .int .i64 y.rev, .slice a1 y.ifs.length c1, .slice a2 y.thens.length c2, .slice a3 y.elses.length c3])] p (badC y) (encTail y (encHead y))) := Lib.hid (by rw [← HST.out, HBD.out]; exact G9.out)
       go_wp2_with fail
       go_meet
       first | exact GE | exact GE.out
    ·as_aux_lemma =>
      have HKN := Lib.hid hk
      have k1 : (y.kind == 1) = false := by simp [hk]
      have k2 : (y.kind == 2) = false := by simp [hk]
      have k3 : (y.kind == 3) = false := by simp [hk]
      have k4 : (y.kind == 4) = false := by simp [hk]
      have k5 : (y.kind == 5) = false := by simp [hk]
      have k6 : (y.kind == 6) = false := by simp [hk]
      have k7 : (y.kind == 7) = true := by simp [hk]
      have k8 : (y.kind == 8) = false := by simp [hk]
      have k9 : (y.kind == 9) = false := by simp [hk]
      have k10 : (y.kind == 10) = false := by simp [hk]
      have k11 : (y.kind == 11) = false := by simp [hk]
      have k12 : (y.kind == 12) = false := by simp [hk]
      have k13 : (y.kind == 13) = false := by simp [hk]
      have k14 : (y.kind == 14) = false := by simp [hk]
      clear hk
      obtain ⟨⟨m0, m1, m2, m3, m4, m5, m6, m7, m8, m9, m10, m11, m12, m13, m14, m15, m16, m17⟩, ml, -⟩ := Blk.all18 (G2.out.blk (List.mem_cons_self ..))
      go_wp2_with fail
      refine (ek_texts G2.out [y.name, y.word, y.salt] (by intro n hn; simp at hn; rcases hn with rfl | rfl | rfl <;> first | exact HM.out.2.1.name | exact HM.out.2.1.word | exact HM.out.2.1.salt) (by simp)).mono ?_
      rintro e X10 ⟨rfl, t10⟩
      have G10 := Lib.hid t10
      clear t10
      clear m0 m1 m2 m3 m4 m5 m6 m7 m8 m9 m10 m11 m12 m13 m14 m15 m16 m17 ml
      as_aux_lemma =>
       have HST : Hid ([y.name, y.word, y.salt].foldl wtext (encHead y) = encTail y (encHead y)) := Lib.hid (by simp [encTail, HKN.out])
       have HBD : Hid (badC y = false) := by
        have hn := clean_nolists (x := y) (by rw [HKN.out]; decide)
        rw [HM.out.1.clean] at hn
        simp [badC, hn.2.1, hn.2.2]
        exact trivial
       have GE : Hid (Ek V _ [(bc, 44, #[.int .i64 y.client, .int .i64 y.seq, .string ⟨y.token.toArray⟩, .int .i64 y.kind, .string ⟨y.name.toArray⟩, .string ⟨y.other.toArray⟩, .string ⟨y.word.toArray⟩, .string ⟨y.salt.toArray⟩, .int .i64 y.bytes, .int .i64 y.keys, .string ⟨y.gf.toArray⟩, .string ⟨y.gt.toArray⟩, .bool y.gr, .bool y.gw, .int .i64 y.rev, .slice a1 y.ifs.length c1, .slice a2 y.thens.length c2, .slice a3 y.elses.length c3])] p (badC y) (encTail y (encHead y))) := Lib.hid (by rw [← HST.out, HBD.out]; exact G10.out)
       go_wp2_with fail
       go_meet
       first | exact GE | exact GE.out
    ·as_aux_lemma =>
      have HKN := Lib.hid hk
      have k1 : (y.kind == 1) = false := by simp [hk]
      have k2 : (y.kind == 2) = false := by simp [hk]
      have k3 : (y.kind == 3) = false := by simp [hk]
      have k4 : (y.kind == 4) = false := by simp [hk]
      have k5 : (y.kind == 5) = false := by simp [hk]
      have k6 : (y.kind == 6) = false := by simp [hk]
      have k7 : (y.kind == 7) = false := by simp [hk]
      have k8 : (y.kind == 8) = true := by simp [hk]
      have k9 : (y.kind == 9) = false := by simp [hk]
      have k10 : (y.kind == 10) = false := by simp [hk]
      have k11 : (y.kind == 11) = false := by simp [hk]
      have k12 : (y.kind == 12) = false := by simp [hk]
      have k13 : (y.kind == 13) = false := by simp [hk]
      have k14 : (y.kind == 14) = false := by simp [hk]
      clear hk
      obtain ⟨⟨m0, m1, m2, m3, m4, m5, m6, m7, m8, m9, m10, m11, m12, m13, m14, m15, m16, m17⟩, ml, -⟩ := Blk.all18 (G2.out.blk (List.mem_cons_self ..))
      go_upto_region 33 with fail
      clear m0 m1 m2 m3 m4 m5 m6 m7 m8 m9 m10 m11 m12 m13 m14 m15 m16 m17 ml
      have G11d := Lib.hid (G2.out.quiet ((Step.refl [] _).drew))
      refine wp_region_held_drew (S := fun V => Hid (Blk V bc 44 #[.int .i64 y.client, .int .i64 y.seq, .string ⟨y.token.toArray⟩, .int .i64 y.kind, .string ⟨y.name.toArray⟩, .string ⟨y.other.toArray⟩, .string ⟨y.word.toArray⟩, .string ⟨y.salt.toArray⟩, .int .i64 y.bytes, .int .i64 y.keys, .string ⟨y.gf.toArray⟩, .string ⟨y.gt.toArray⟩, .bool y.gr, .bool y.gw, .int .i64 y.rev, .slice a1 y.ifs.length c1, .slice a2 y.thens.length c2, .slice a3 y.elses.length c3])) (by kernel_rfl) (Lib.hid (G11d.out.blk (List.mem_cons_self ..))) (fun hHeld => ?_)
      refine wpAnyH_take (i := 0) (v := ?_) rfl (by kernel_rfl) (by kernel_rfl) (by kernel_rfl) (fun _ _ _ h => h) (Or.inl ⟨by rfl, ?_⟩) hHeld ?_
      rotate_left
      ·intro w hSw1
       try dsimp only at hSw1
       go_simp
       try (with_reducible rfl)
      try simp only [Act.put, LsA, LsB, LsC, LsD, LsE, LsF]
      refine wpAnyH_take (i := 1) (v := ?_) rfl (by kernel_rfl) (by kernel_rfl) (by kernel_rfl) (fun _ _ _ h => h) (Or.inl ⟨by rfl, ?_⟩) hHeld ?_
      rotate_left
      ·intro w hSw1
       try dsimp only at hSw1
       go_simp
       try (with_reducible rfl)
      try simp only [Act.put, LsA, LsB, LsC, LsD, LsE, LsF]
      refine wpAnyH_take (i := 2) (v := ?_) rfl (by kernel_rfl) (by kernel_rfl) (by kernel_rfl) (fun _ _ _ h => h) (Or.inl ⟨by rfl, ?_⟩) hHeld ?_
      rotate_left
      ·intro w hSw1
       try dsimp only at hSw1
       go_simp
       try (with_reducible rfl)
      try simp only [Act.put, LsA, LsB, LsC, LsD, LsE, LsF]
      refine wpAnyH_take (i := 3) (v := ?_) rfl (by kernel_rfl) (by kernel_rfl) (by kernel_rfl) (fun _ _ _ h => h) (Or.inl ⟨by rfl, ?_⟩) hHeld ?_
      rotate_left
      ·intro w hSw1
       try dsimp only at hSw1
       go_simp
       try (with_reducible rfl)
      try simp only [Act.put, LsA, LsB, LsC, LsD, LsE, LsF]
      refine wpAnyH_take (i := 4) (v := ?_) rfl (by kernel_rfl) (by kernel_rfl) (by kernel_rfl) (fun _ _ _ h => h) (Or.inl ⟨by rfl, ?_⟩) hHeld ?_
      rotate_left
      ·intro w hSw1
       have tc := hSw1.out.cell 4
       simp only [List.getElem?_toArray, List.getElem?_cons_zero, List.getElem?_cons_succ] at tc
       have tl := hSw1.out.lt
       go_simp
       try (with_reducible rfl)
      try simp only [Act.put, LsA, LsB, LsC, LsD, LsE, LsF]
      refine wpAnyH_ready (rs := [5]) (by kernel_rfl) (by simp) ?_
      refine AllReadyH.cons rfl (fun K hK => ?_) AllReadyH.nil
      go_simp
      refine (ek_text G11d.out y.name HM.out.2.1.name).mono ?_; rintro e X11 ⟨rfl, t11⟩; have G11 := Lib.hid t11; clear t11
      go_wp2_with fail
      refine hK.out _ _ (Lib.hid (G11.out.blk (List.mem_cons_self ..))) (fun hHeld2 => ?_)
      clear hK K hHeld
      try simp only [Act.put, LsA, LsB, LsC, LsD, LsE, LsF]
      refine wpAnyH_done (by kernel_rfl) ?_ _
      as_aux_lemma =>
       have HST : Hid (wtext (encHead y) y.name = encTail y (encHead y)) := Lib.hid (by simp [encTail, HKN.out])
       have HBD : Hid (badC y = false) := by
        have hn := clean_nolists (x := y) (by rw [HKN.out]; decide)
        rw [HM.out.1.clean] at hn
        simp [badC, hn.2.1, hn.2.2]
        exact trivial
       have GE : Hid (Ek V _ [(bc, 44, #[.int .i64 y.client, .int .i64 y.seq, .string ⟨y.token.toArray⟩, .int .i64 y.kind, .string ⟨y.name.toArray⟩, .string ⟨y.other.toArray⟩, .string ⟨y.word.toArray⟩, .string ⟨y.salt.toArray⟩, .int .i64 y.bytes, .int .i64 y.keys, .string ⟨y.gf.toArray⟩, .string ⟨y.gt.toArray⟩, .bool y.gr, .bool y.gw, .int .i64 y.rev, .slice a1 y.ifs.length c1, .slice a2 y.thens.length c2, .slice a3 y.elses.length c3])] p (badC y) (encTail y (encHead y))) := Lib.hid (by rw [← HST.out, HBD.out]; exact G11.out)
       go_wp2_with fail
       go_meet
       first | exact GE | exact GE.out
    ·as_aux_lemma =>
      have HKN := Lib.hid hk
      have k1 : (y.kind == 1) = false := by simp [hk]
      have k2 : (y.kind == 2) = false := by simp [hk]
      have k3 : (y.kind == 3) = false := by simp [hk]
      have k4 : (y.kind == 4) = false := by simp [hk]
      have k5 : (y.kind == 5) = false := by simp [hk]
      have k6 : (y.kind == 6) = false := by simp [hk]
      have k7 : (y.kind == 7) = false := by simp [hk]
      have k8 : (y.kind == 8) = false := by simp [hk]
      have k9 : (y.kind == 9) = true := by simp [hk]
      have k10 : (y.kind == 10) = false := by simp [hk]
      have k11 : (y.kind == 11) = false := by simp [hk]
      have k12 : (y.kind == 12) = false := by simp [hk]
      have k13 : (y.kind == 13) = false := by simp [hk]
      have k14 : (y.kind == 14) = false := by simp [hk]
      clear hk
      obtain ⟨⟨m0, m1, m2, m3, m4, m5, m6, m7, m8, m9, m10, m11, m12, m13, m14, m15, m16, m17⟩, ml, -⟩ := Blk.all18 (G2.out.blk (List.mem_cons_self ..))
      go_wp2_with fail
      refine (ek_texts G2.out [y.name, y.other] (by intro n hn; simp at hn; rcases hn with rfl | rfl <;> first | exact HM.out.2.1.name | exact HM.out.2.1.other) (by simp)).mono ?_
      rintro e X12 ⟨rfl, t12⟩
      have G12 := Lib.hid t12
      clear t12
      clear m0 m1 m2 m3 m4 m5 m6 m7 m8 m9 m10 m11 m12 m13 m14 m15 m16 m17 ml
      as_aux_lemma =>
       have HST : Hid ([y.name, y.other].foldl wtext (encHead y) = encTail y (encHead y)) := Lib.hid (by simp [encTail, HKN.out])
       have HBD : Hid (badC y = false) := by
        have hn := clean_nolists (x := y) (by rw [HKN.out]; decide)
        rw [HM.out.1.clean] at hn
        simp [badC, hn.2.1, hn.2.2]
        exact trivial
       have GE : Hid (Ek V _ [(bc, 44, #[.int .i64 y.client, .int .i64 y.seq, .string ⟨y.token.toArray⟩, .int .i64 y.kind, .string ⟨y.name.toArray⟩, .string ⟨y.other.toArray⟩, .string ⟨y.word.toArray⟩, .string ⟨y.salt.toArray⟩, .int .i64 y.bytes, .int .i64 y.keys, .string ⟨y.gf.toArray⟩, .string ⟨y.gt.toArray⟩, .bool y.gr, .bool y.gw, .int .i64 y.rev, .slice a1 y.ifs.length c1, .slice a2 y.thens.length c2, .slice a3 y.elses.length c3])] p (badC y) (encTail y (encHead y))) := Lib.hid (by rw [← HST.out, HBD.out]; exact G12.out)
       go_wp2_with fail
       go_meet
       first | exact GE | exact GE.out
    ·as_aux_lemma =>
      have HKN := Lib.hid hk
      have k1 : (y.kind == 1) = false := by simp [hk]
      have k2 : (y.kind == 2) = false := by simp [hk]
      have k3 : (y.kind == 3) = false := by simp [hk]
      have k4 : (y.kind == 4) = false := by simp [hk]
      have k5 : (y.kind == 5) = false := by simp [hk]
      have k6 : (y.kind == 6) = false := by simp [hk]
      have k7 : (y.kind == 7) = false := by simp [hk]
      have k8 : (y.kind == 8) = false := by simp [hk]
      have k9 : (y.kind == 9) = false := by simp [hk]
      have k10 : (y.kind == 10) = true := by simp [hk]
      have k11 : (y.kind == 11) = false := by simp [hk]
      have k12 : (y.kind == 12) = false := by simp [hk]
      have k13 : (y.kind == 13) = false := by simp [hk]
      have k14 : (y.kind == 14) = false := by simp [hk]
      clear hk
      obtain ⟨⟨m0, m1, m2, m3, m4, m5, m6, m7, m8, m9, m10, m11, m12, m13, m14, m15, m16, m17⟩, ml, -⟩ := Blk.all18 (G2.out.blk (List.mem_cons_self ..))
      go_upto_region 33 with fail
      clear m0 m1 m2 m3 m4 m5 m6 m7 m8 m9 m10 m11 m12 m13 m14 m15 m16 m17 ml
      have G13d := Lib.hid (G2.out.quiet ((Step.refl [] _).drew))
      refine wp_region_held_drew (S := fun V => Hid (Blk V bc 44 #[.int .i64 y.client, .int .i64 y.seq, .string ⟨y.token.toArray⟩, .int .i64 y.kind, .string ⟨y.name.toArray⟩, .string ⟨y.other.toArray⟩, .string ⟨y.word.toArray⟩, .string ⟨y.salt.toArray⟩, .int .i64 y.bytes, .int .i64 y.keys, .string ⟨y.gf.toArray⟩, .string ⟨y.gt.toArray⟩, .bool y.gr, .bool y.gw, .int .i64 y.rev, .slice a1 y.ifs.length c1, .slice a2 y.thens.length c2, .slice a3 y.elses.length c3])) (by kernel_rfl) (Lib.hid (G13d.out.blk (List.mem_cons_self ..))) (fun hHeld => ?_)
      refine wpAnyH_take (i := 0) (v := ?_) rfl (by kernel_rfl) (by kernel_rfl) (by kernel_rfl) (fun _ _ _ h => h) (Or.inl ⟨by rfl, ?_⟩) hHeld ?_
      rotate_left
      ·intro w hSw1
       try dsimp only at hSw1
       go_simp
       try (with_reducible rfl)
      try simp only [Act.put, LsA, LsB, LsC, LsD, LsE, LsF]
      refine wpAnyH_take (i := 1) (v := ?_) rfl (by kernel_rfl) (by kernel_rfl) (by kernel_rfl) (fun _ _ _ h => h) (Or.inl ⟨by rfl, ?_⟩) hHeld ?_
      rotate_left
      ·intro w hSw1
       try dsimp only at hSw1
       go_simp
       try (with_reducible rfl)
      try simp only [Act.put, LsA, LsB, LsC, LsD, LsE, LsF]
      refine wpAnyH_take (i := 2) (v := ?_) rfl (by kernel_rfl) (by kernel_rfl) (by kernel_rfl) (fun _ _ _ h => h) (Or.inl ⟨by rfl, ?_⟩) hHeld ?_
      rotate_left
      ·intro w hSw1
       try dsimp only at hSw1
       go_simp
       try (with_reducible rfl)
      try simp only [Act.put, LsA, LsB, LsC, LsD, LsE, LsF]
      refine wpAnyH_take (i := 3) (v := ?_) rfl (by kernel_rfl) (by kernel_rfl) (by kernel_rfl) (fun _ _ _ h => h) (Or.inl ⟨by rfl, ?_⟩) hHeld ?_
      rotate_left
      ·intro w hSw1
       try dsimp only at hSw1
       go_simp
       try (with_reducible rfl)
      try simp only [Act.put, LsA, LsB, LsC, LsD, LsE, LsF]
      refine wpAnyH_take (i := 4) (v := ?_) rfl (by kernel_rfl) (by kernel_rfl) (by kernel_rfl) (fun _ _ _ h => h) (Or.inl ⟨by rfl, ?_⟩) hHeld ?_
      rotate_left
      ·intro w hSw1
       have tc := hSw1.out.cell 4
       simp only [List.getElem?_toArray, List.getElem?_cons_zero, List.getElem?_cons_succ] at tc
       have tl := hSw1.out.lt
       go_simp
       try (with_reducible rfl)
      try simp only [Act.put, LsA, LsB, LsC, LsD, LsE, LsF]
      refine wpAnyH_ready (rs := [5]) (by kernel_rfl) (by simp) ?_
      refine AllReadyH.cons rfl (fun K hK => ?_) AllReadyH.nil
      go_simp
      refine (ek_text G13d.out y.name HM.out.2.1.name).mono ?_; rintro e X13 ⟨rfl, t13⟩; have G13 := Lib.hid t13; clear t13
      go_wp2_with fail
      refine hK.out _ _ (Lib.hid (G13.out.blk (List.mem_cons_self ..))) (fun hHeld2 => ?_)
      clear hK K hHeld
      try simp only [Act.put, LsA, LsB, LsC, LsD, LsE, LsF]
      refine wpAnyH_done (by kernel_rfl) ?_ _
      as_aux_lemma =>
       have HST : Hid (wtext (encHead y) y.name = encTail y (encHead y)) := Lib.hid (by simp [encTail, HKN.out])
       have HBD : Hid (badC y = false) := by
        have hn := clean_nolists (x := y) (by rw [HKN.out]; decide)
        rw [HM.out.1.clean] at hn
        simp [badC, hn.2.1, hn.2.2]
        exact trivial
       have GE : Hid (Ek V _ [(bc, 44, #[.int .i64 y.client, .int .i64 y.seq, .string ⟨y.token.toArray⟩, .int .i64 y.kind, .string ⟨y.name.toArray⟩, .string ⟨y.other.toArray⟩, .string ⟨y.word.toArray⟩, .string ⟨y.salt.toArray⟩, .int .i64 y.bytes, .int .i64 y.keys, .string ⟨y.gf.toArray⟩, .string ⟨y.gt.toArray⟩, .bool y.gr, .bool y.gw, .int .i64 y.rev, .slice a1 y.ifs.length c1, .slice a2 y.thens.length c2, .slice a3 y.elses.length c3])] p (badC y) (encTail y (encHead y))) := Lib.hid (by rw [← HST.out, HBD.out]; exact G13.out)
       go_wp2_with fail
       go_meet
       first | exact GE | exact GE.out
    ·as_aux_lemma =>
      have HKN := Lib.hid hk
      have k1 : (y.kind == 1) = false := by simp [hk]
      have k2 : (y.kind == 2) = false := by simp [hk]
      have k3 : (y.kind == 3) = false := by simp [hk]
      have k4 : (y.kind == 4) = false := by simp [hk]
      have k5 : (y.kind == 5) = false := by simp [hk]
      have k6 : (y.kind == 6) = false := by simp [hk]
      have k7 : (y.kind == 7) = false := by simp [hk]
      have k8 : (y.kind == 8) = false := by simp [hk]
      have k9 : (y.kind == 9) = false := by simp [hk]
      have k10 : (y.kind == 10) = false := by simp [hk]
      have k11 : (y.kind == 11) = true := by simp [hk]
      have k12 : (y.kind == 12) = false := by simp [hk]
      have k13 : (y.kind == 13) = false := by simp [hk]
      have k14 : (y.kind == 14) = false := by simp [hk]
      clear hk
      obtain ⟨⟨m0, m1, m2, m3, m4, m5, m6, m7, m8, m9, m10, m11, m12, m13, m14, m15, m16, m17⟩, ml, -⟩ := Blk.all18 (G2.out.blk (List.mem_cons_self ..))
      go_wp2_with fail
      refine (ek_texts G2.out [y.name, y.gf, y.gt] (by intro n hn; simp at hn; rcases hn with rfl | rfl | rfl <;> first | exact HM.out.2.1.name | exact HM.out.2.1.gf | exact HM.out.2.1.gt) (by simp)).mono ?_
      rintro e X14 ⟨rfl, t14⟩
      have G14 := Lib.hid t14
      clear t14
      clear m0 m1 m2 m3 m4 m5 m6 m7 m8 m9 m10 m11 m12 m13 m14 m15 m16 m17 ml
      as_aux_lemma =>
       obtain ⟨⟨m0, m1, m2, m3, m4, m5, m6, m7, m8, m9, m10, m11, m12, m13, m14, m15, m16, m17⟩, ml, -⟩ := Blk.all18 (G14.out.blk (List.mem_cons_self ..))
       go_upto_region 40 with fail
       clear m0 m1 m2 m3 m4 m5 m6 m7 m8 m9 m10 m11 m12 m13 m14 m15 m16 m17 ml
       have G15d := Lib.hid (G14.out.quiet ((Step.refl [] _).drew))
       refine wp_region_held_drew (S := fun V => Hid (Blk V bc 44 #[.int .i64 y.client, .int .i64 y.seq, .string ⟨y.token.toArray⟩, .int .i64 y.kind, .string ⟨y.name.toArray⟩, .string ⟨y.other.toArray⟩, .string ⟨y.word.toArray⟩, .string ⟨y.salt.toArray⟩, .int .i64 y.bytes, .int .i64 y.keys, .string ⟨y.gf.toArray⟩, .string ⟨y.gt.toArray⟩, .bool y.gr, .bool y.gw, .int .i64 y.rev, .slice a1 y.ifs.length c1, .slice a2 y.thens.length c2, .slice a3 y.elses.length c3])) (by kernel_rfl) (Lib.hid (G15d.out.blk (List.mem_cons_self ..))) (fun hHeld => ?_)
       refine wpAnyH_take (i := 0) (v := ?_) rfl (by kernel_rfl) (by kernel_rfl) (by kernel_rfl) (fun _ _ _ h => h) (Or.inl ⟨by rfl, ?_⟩) hHeld ?_
       rotate_left
       ·intro w hSw1
        try dsimp only at hSw1
        go_simp
        try (with_reducible rfl)
       try simp only [Act.put, LsA, LsB, LsC, LsD, LsE, LsF]
       refine wpAnyH_take (i := 1) (v := ?_) rfl (by kernel_rfl) (by kernel_rfl) (by kernel_rfl) (fun _ _ _ h => h) (Or.inl ⟨by rfl, ?_⟩) hHeld ?_
       rotate_left
       ·intro w hSw1
        try dsimp only at hSw1
        go_simp
        try (with_reducible rfl)
       try simp only [Act.put, LsA, LsB, LsC, LsD, LsE, LsF]
       refine wpAnyH_take (i := 2) (v := ?_) rfl (by kernel_rfl) (by kernel_rfl) (by kernel_rfl) (fun _ _ _ h => h) (Or.inl ⟨by rfl, ?_⟩) hHeld ?_
       rotate_left
       ·intro w hSw1
        try dsimp only at hSw1
        go_simp
        try (with_reducible rfl)
       try simp only [Act.put, LsA, LsB, LsC, LsD, LsE, LsF]
       refine wpAnyH_take (i := 3) (v := ?_) rfl (by kernel_rfl) (by kernel_rfl) (by kernel_rfl) (fun _ _ _ h => h) (Or.inl ⟨by rfl, ?_⟩) hHeld ?_
       rotate_left
       ·intro w hSw1
        try dsimp only at hSw1
        go_simp
        try (with_reducible rfl)
       try simp only [Act.put, LsA, LsB, LsC, LsD, LsE, LsF]
       refine wpAnyH_take (i := 4) (v := ?_) rfl (by kernel_rfl) (by kernel_rfl) (by kernel_rfl) (fun _ _ _ h => h) (Or.inl ⟨by rfl, ?_⟩) hHeld ?_
       rotate_left
       ·intro w hSw1
        try dsimp only at hSw1
        go_simp
        try (with_reducible rfl)
       try simp only [Act.put, LsA, LsB, LsC, LsD, LsE, LsF]
       refine wpAnyH_take (i := 5) (v := ?_) rfl (by kernel_rfl) (by kernel_rfl) (by kernel_rfl) (fun _ _ _ h => h) (Or.inl ⟨by rfl, ?_⟩) hHeld ?_
       rotate_left
       ·intro w hSw1
        have tc := hSw1.out.cell 12
        simp only [List.getElem?_toArray, List.getElem?_cons_zero, List.getElem?_cons_succ] at tc
        have tl := hSw1.out.lt
        go_simp
        try (with_reducible rfl)
       try simp only [Act.put, LsA, LsB, LsC, LsD, LsE, LsF]
       refine wpAnyH_ready (rs := [6]) (by kernel_rfl) (by simp) ?_
       refine AllReadyH.cons rfl (fun K hK => ?_) AllReadyH.nil
       go_simp
       refine (ek_flag G15d.out y.gr).mono ?_; rintro e X15 ⟨rfl, t15⟩; have G15 := Lib.hid t15; clear t15
       go_wp2_with fail
       refine hK.out _ _ (Lib.hid (G15.out.blk (List.mem_cons_self ..))) (fun hHeld2 => ?_)
       clear hK K hHeld
       try simp only [Act.put, LsA, LsB, LsC, LsD, LsE, LsF]
       refine wpAnyH_done (by kernel_rfl) ?_ _
       as_aux_lemma =>
        obtain ⟨⟨m0, m1, m2, m3, m4, m5, m6, m7, m8, m9, m10, m11, m12, m13, m14, m15, m16, m17⟩, ml, -⟩ := Blk.all18 (G15.out.blk (List.mem_cons_self ..))
        go_upto_region 41 with fail
        clear m0 m1 m2 m3 m4 m5 m6 m7 m8 m9 m10 m11 m12 m13 m14 m15 m16 m17 ml
        have G16d := Lib.hid (G15.out.quiet ((Step.refl [] _).drew))
        refine wp_region_held_drew (S := fun V => Hid (Blk V bc 44 #[.int .i64 y.client, .int .i64 y.seq, .string ⟨y.token.toArray⟩, .int .i64 y.kind, .string ⟨y.name.toArray⟩, .string ⟨y.other.toArray⟩, .string ⟨y.word.toArray⟩, .string ⟨y.salt.toArray⟩, .int .i64 y.bytes, .int .i64 y.keys, .string ⟨y.gf.toArray⟩, .string ⟨y.gt.toArray⟩, .bool y.gr, .bool y.gw, .int .i64 y.rev, .slice a1 y.ifs.length c1, .slice a2 y.thens.length c2, .slice a3 y.elses.length c3])) (by kernel_rfl) (Lib.hid (G16d.out.blk (List.mem_cons_self ..))) (fun hHeld => ?_)
        refine wpAnyH_take (i := 0) (v := ?_) rfl (by kernel_rfl) (by kernel_rfl) (by kernel_rfl) (fun _ _ _ h => h) (Or.inl ⟨by rfl, ?_⟩) hHeld ?_
        rotate_left
        ·intro w hSw1
         try dsimp only at hSw1
         go_simp
         try (with_reducible rfl)
        try simp only [Act.put, LsA, LsB, LsC, LsD, LsE, LsF]
        refine wpAnyH_take (i := 1) (v := ?_) rfl (by kernel_rfl) (by kernel_rfl) (by kernel_rfl) (fun _ _ _ h => h) (Or.inl ⟨by rfl, ?_⟩) hHeld ?_
        rotate_left
        ·intro w hSw1
         try dsimp only at hSw1
         go_simp
         try (with_reducible rfl)
        try simp only [Act.put, LsA, LsB, LsC, LsD, LsE, LsF]
        refine wpAnyH_take (i := 2) (v := ?_) rfl (by kernel_rfl) (by kernel_rfl) (by kernel_rfl) (fun _ _ _ h => h) (Or.inl ⟨by rfl, ?_⟩) hHeld ?_
        rotate_left
        ·intro w hSw1
         try dsimp only at hSw1
         go_simp
         try (with_reducible rfl)
        try simp only [Act.put, LsA, LsB, LsC, LsD, LsE, LsF]
        refine wpAnyH_take (i := 3) (v := ?_) rfl (by kernel_rfl) (by kernel_rfl) (by kernel_rfl) (fun _ _ _ h => h) (Or.inl ⟨by rfl, ?_⟩) hHeld ?_
        rotate_left
        ·intro w hSw1
         try dsimp only at hSw1
         go_simp
         try (with_reducible rfl)
        try simp only [Act.put, LsA, LsB, LsC, LsD, LsE, LsF]
        refine wpAnyH_take (i := 4) (v := ?_) rfl (by kernel_rfl) (by kernel_rfl) (by kernel_rfl) (fun _ _ _ h => h) (Or.inl ⟨by rfl, ?_⟩) hHeld ?_
        rotate_left
        ·intro w hSw1
         try dsimp only at hSw1
         go_simp
         try (with_reducible rfl)
        try simp only [Act.put, LsA, LsB, LsC, LsD, LsE, LsF]
        refine wpAnyH_take (i := 5) (v := ?_) rfl (by kernel_rfl) (by kernel_rfl) (by kernel_rfl) (fun _ _ _ h => h) (Or.inl ⟨by rfl, ?_⟩) hHeld ?_
        rotate_left
        ·intro w hSw1
         have tc := hSw1.out.cell 13
         simp only [List.getElem?_toArray, List.getElem?_cons_zero, List.getElem?_cons_succ] at tc
         have tl := hSw1.out.lt
         go_simp
         try (with_reducible rfl)
        try simp only [Act.put, LsA, LsB, LsC, LsD, LsE, LsF]
        refine wpAnyH_ready (rs := [6]) (by kernel_rfl) (by simp) ?_
        refine AllReadyH.cons rfl (fun K hK => ?_) AllReadyH.nil
        go_simp
        refine (ek_flag G16d.out y.gw).mono ?_; rintro e X16 ⟨rfl, t16⟩; have G16 := Lib.hid t16; clear t16
        go_wp2_with fail
        refine hK.out _ _ (Lib.hid (G16.out.blk (List.mem_cons_self ..))) (fun hHeld2 => ?_)
        clear hK K hHeld
        try simp only [Act.put, LsA, LsB, LsC, LsD, LsE, LsF]
        refine wpAnyH_done (by kernel_rfl) ?_ _
        as_aux_lemma =>
         have HST : Hid (wflag (wflag ([y.name, y.gf, y.gt].foldl wtext (encHead y)) y.gr) y.gw = encTail y (encHead y)) := Lib.hid (by simp [encTail, HKN.out])
         have HBD : Hid (badC y = false) := by
          have hn := clean_nolists (x := y) (by rw [HKN.out]; decide)
          rw [HM.out.1.clean] at hn
          simp [badC, hn.2.1, hn.2.2]
          exact trivial
         have GE : Hid (Ek V _ [(bc, 44, #[.int .i64 y.client, .int .i64 y.seq, .string ⟨y.token.toArray⟩, .int .i64 y.kind, .string ⟨y.name.toArray⟩, .string ⟨y.other.toArray⟩, .string ⟨y.word.toArray⟩, .string ⟨y.salt.toArray⟩, .int .i64 y.bytes, .int .i64 y.keys, .string ⟨y.gf.toArray⟩, .string ⟨y.gt.toArray⟩, .bool y.gr, .bool y.gw, .int .i64 y.rev, .slice a1 y.ifs.length c1, .slice a2 y.thens.length c2, .slice a3 y.elses.length c3])] p (badC y) (encTail y (encHead y))) := Lib.hid (by rw [← HST.out, HBD.out]; exact G16.out)
         go_wp2_with fail
         go_meet
         first | exact GE | exact GE.out
    ·as_aux_lemma =>
      have HKN := Lib.hid hk
      have k1 : (y.kind == 1) = false := by simp [hk]
      have k2 : (y.kind == 2) = false := by simp [hk]
      have k3 : (y.kind == 3) = false := by simp [hk]
      have k4 : (y.kind == 4) = false := by simp [hk]
      have k5 : (y.kind == 5) = false := by simp [hk]
      have k6 : (y.kind == 6) = false := by simp [hk]
      have k7 : (y.kind == 7) = false := by simp [hk]
      have k8 : (y.kind == 8) = false := by simp [hk]
      have k9 : (y.kind == 9) = false := by simp [hk]
      have k10 : (y.kind == 10) = false := by simp [hk]
      have k11 : (y.kind == 11) = false := by simp [hk]
      have k12 : (y.kind == 12) = true := by simp [hk]
      have k13 : (y.kind == 13) = false := by simp [hk]
      have k14 : (y.kind == 14) = false := by simp [hk]
      clear hk
      obtain ⟨⟨m0, m1, m2, m3, m4, m5, m6, m7, m8, m9, m10, m11, m12, m13, m14, m15, m16, m17⟩, ml, -⟩ := Blk.all18 (G2.out.blk (List.mem_cons_self ..))
      go_wp2_with fail
      refine (ek_texts G2.out [y.name, y.gf, y.gt] (by intro n hn; simp at hn; rcases hn with rfl | rfl | rfl <;> first | exact HM.out.2.1.name | exact HM.out.2.1.gf | exact HM.out.2.1.gt) (by simp)).mono ?_
      rintro e X17 ⟨rfl, t17⟩
      have G17 := Lib.hid t17
      clear t17
      clear m0 m1 m2 m3 m4 m5 m6 m7 m8 m9 m10 m11 m12 m13 m14 m15 m16 m17 ml
      as_aux_lemma =>
       have HST : Hid ([y.name, y.gf, y.gt].foldl wtext (encHead y) = encTail y (encHead y)) := Lib.hid (by simp [encTail, HKN.out])
       have HBD : Hid (badC y = false) := by
        have hn := clean_nolists (x := y) (by rw [HKN.out]; decide)
        rw [HM.out.1.clean] at hn
        simp [badC, hn.2.1, hn.2.2]
        exact trivial
       have GE : Hid (Ek V _ [(bc, 44, #[.int .i64 y.client, .int .i64 y.seq, .string ⟨y.token.toArray⟩, .int .i64 y.kind, .string ⟨y.name.toArray⟩, .string ⟨y.other.toArray⟩, .string ⟨y.word.toArray⟩, .string ⟨y.salt.toArray⟩, .int .i64 y.bytes, .int .i64 y.keys, .string ⟨y.gf.toArray⟩, .string ⟨y.gt.toArray⟩, .bool y.gr, .bool y.gw, .int .i64 y.rev, .slice a1 y.ifs.length c1, .slice a2 y.thens.length c2, .slice a3 y.elses.length c3])] p (badC y) (encTail y (encHead y))) := Lib.hid (by rw [← HST.out, HBD.out]; exact G17.out)
       go_wp2_with fail
       go_meet
       first | exact GE | exact GE.out
    ·as_aux_lemma =>
      have HKN := Lib.hid hk
      have k1 : (y.kind == 1) = false := by simp [hk]
      have k2 : (y.kind == 2) = false := by simp [hk]
      have k3 : (y.kind == 3) = false := by simp [hk]
      have k4 : (y.kind == 4) = false := by simp [hk]
      have k5 : (y.kind == 5) = false := by simp [hk]
      have k6 : (y.kind == 6) = false := by simp [hk]
      have k7 : (y.kind == 7) = false := by simp [hk]
      have k8 : (y.kind == 8) = false := by simp [hk]
      have k9 : (y.kind == 9) = false := by simp [hk]
      have k10 : (y.kind == 10) = false := by simp [hk]
      have k11 : (y.kind == 11) = false := by simp [hk]
      have k12 : (y.kind == 12) = false := by simp [hk]
      have k13 : (y.kind == 13) = true := by simp [hk]
      have k14 : (y.kind == 14) = false := by simp [hk]
      clear hk
      obtain ⟨⟨m0, m1, m2, m3, m4, m5, m6, m7, m8, m9, m10, m11, m12, m13, m14, m15, m16, m17⟩, ml, -⟩ := Blk.all18 (G2.out.blk (List.mem_cons_self ..))
      go_wp2_with fail
      refine (ek_texts G2.out [y.name, y.other] (by intro n hn; simp at hn; rcases hn with rfl | rfl <;> first | exact HM.out.2.1.name | exact HM.out.2.1.other) (by simp)).mono ?_
      rintro e X18 ⟨rfl, t18⟩
      have G18 := Lib.hid t18
      clear t18
      clear m0 m1 m2 m3 m4 m5 m6 m7 m8 m9 m10 m11 m12 m13 m14 m15 m16 m17 ml
      as_aux_lemma =>
       have HST : Hid ([y.name, y.other].foldl wtext (encHead y) = encTail y (encHead y)) := Lib.hid (by simp [encTail, HKN.out])
       have HBD : Hid (badC y = false) := by
        have hn := clean_nolists (x := y) (by rw [HKN.out]; decide)
        rw [HM.out.1.clean] at hn
        simp [badC, hn.2.1, hn.2.2]
        exact trivial
       have GE : Hid (Ek V _ [(bc, 44, #[.int .i64 y.client, .int .i64 y.seq, .string ⟨y.token.toArray⟩, .int .i64 y.kind, .string ⟨y.name.toArray⟩, .string ⟨y.other.toArray⟩, .string ⟨y.word.toArray⟩, .string ⟨y.salt.toArray⟩, .int .i64 y.bytes, .int .i64 y.keys, .string ⟨y.gf.toArray⟩, .string ⟨y.gt.toArray⟩, .bool y.gr, .bool y.gw, .int .i64 y.rev, .slice a1 y.ifs.length c1, .slice a2 y.thens.length c2, .slice a3 y.elses.length c3])] p (badC y) (encTail y (encHead y))) := Lib.hid (by rw [← HST.out, HBD.out]; exact G18.out)
       go_wp2_with fail
       go_meet
       first | exact GE | exact GE.out
    ·as_aux_lemma =>
      have HKN := Lib.hid hk
      have k1 : (y.kind == 1) = false := by simp [hk]
      have k2 : (y.kind == 2) = false := by simp [hk]
      have k3 : (y.kind == 3) = false := by simp [hk]
      have k4 : (y.kind == 4) = false := by simp [hk]
      have k5 : (y.kind == 5) = false := by simp [hk]
      have k6 : (y.kind == 6) = false := by simp [hk]
      have k7 : (y.kind == 7) = false := by simp [hk]
      have k8 : (y.kind == 8) = false := by simp [hk]
      have k9 : (y.kind == 9) = false := by simp [hk]
      have k10 : (y.kind == 10) = false := by simp [hk]
      have k11 : (y.kind == 11) = false := by simp [hk]
      have k12 : (y.kind == 12) = false := by simp [hk]
      have k13 : (y.kind == 13) = false := by simp [hk]
      have k14 : (y.kind == 14) = true := by simp [hk]
      clear hk
      obtain ⟨⟨m0, m1, m2, m3, m4, m5, m6, m7, m8, m9, m10, m11, m12, m13, m14, m15, m16, m17⟩, ml, -⟩ := Blk.all18 (G2.out.blk (List.mem_cons_self ..))
      go_wp2_with fail
      refine (ek_texts G2.out [y.name, y.other] (by intro n hn; simp at hn; rcases hn with rfl | rfl <;> first | exact HM.out.2.1.name | exact HM.out.2.1.other) (by simp)).mono ?_
      rintro e X19 ⟨rfl, t19⟩
      have G19 := Lib.hid t19
      clear t19
      clear m0 m1 m2 m3 m4 m5 m6 m7 m8 m9 m10 m11 m12 m13 m14 m15 m16 m17 ml
      as_aux_lemma =>
       have HST : Hid ([y.name, y.other].foldl wtext (encHead y) = encTail y (encHead y)) := Lib.hid (by simp [encTail, HKN.out])
       have HBD : Hid (badC y = false) := by
        have hn := clean_nolists (x := y) (by rw [HKN.out]; decide)
        rw [HM.out.1.clean] at hn
        simp [badC, hn.2.1, hn.2.2]
        exact trivial
       have GE : Hid (Ek V _ [(bc, 44, #[.int .i64 y.client, .int .i64 y.seq, .string ⟨y.token.toArray⟩, .int .i64 y.kind, .string ⟨y.name.toArray⟩, .string ⟨y.other.toArray⟩, .string ⟨y.word.toArray⟩, .string ⟨y.salt.toArray⟩, .int .i64 y.bytes, .int .i64 y.keys, .string ⟨y.gf.toArray⟩, .string ⟨y.gt.toArray⟩, .bool y.gr, .bool y.gw, .int .i64 y.rev, .slice a1 y.ifs.length c1, .slice a2 y.thens.length c2, .slice a3 y.elses.length c3])] p (badC y) (encTail y (encHead y))) := Lib.hid (by rw [← HST.out, HBD.out]; exact G19.out)
       go_wp2_with fail
       go_meet
       first | exact GE | exact GE.out
   case rest =>
    have GE := hcut
    as_aux_lemma =>
     cases hbd : badC y with
     | true =>
      have HE : Hid (encC y = ([], 1)) := Lib.hid (by simp [encC, HID.out, hbd])
      rw [hbd] at GE
      clear hbd
      have gb := GE.out.bad
      have HWR := wrong_any y a1 a2 a3 c1 c2 c3 _ (HRC.out.step GE.out.out) HM.out.2.2.1
      go_wp2_with (refine wpList_loadRow (T := 44) (b := bc) (cs := #[.int .i64 y.client, .int .i64 y.seq, .string ⟨y.token.toArray⟩, .int .i64 y.kind, .string ⟨y.name.toArray⟩, .string ⟨y.other.toArray⟩, .string ⟨y.word.toArray⟩, .string ⟨y.salt.toArray⟩, .int .i64 y.bytes, .int .i64 y.keys, .string ⟨y.gf.toArray⟩, .string ⟨y.gt.toArray⟩, .bool y.gr, .bool y.gw, .int .i64 y.rev, .slice a1 y.ifs.length c1, .slice a2 y.thens.length c2, .slice a3 y.elses.length c3]) rfl (.tmp 4) rfl rfl Try.sCmd (GE.out.blk (List.mem_cons_self ..)) ?_)
      refine HWR.mono ?_
      rintro e Y1 ⟨rfl, kk⟩
      have HK := Lib.hid (GE.out.quiet kk)
      clear kk HWR gb
      have gb := HK.out.bad
      have HO := Lib.hid (HVS.out.trans HK.out.out)
      cases hw : wrongC y with
      | true =>
       as_aux_lemma =>
        go_wp2_with fail
        exact bodyPost_ret (results_tmp2 rfl _ _ _) rfl ⟨by rw [HE.out]; rfl, HO.out⟩
      | false =>
       as_aux_lemma =>
        go_wp2_with fail
        exact bodyPost_ret (results_tmp2 rfl _ _ _) rfl ⟨by rw [HE.out]; rfl, HO.out⟩
     | false =>
      have HBD := Lib.hid hbd
      rw [hbd] at GE
      clear hbd
      have gb := GE.out.bad
      have HWR := wrong_any y a1 a2 a3 c1 c2 c3 _ (HRC.out.step GE.out.out) HM.out.2.2.1
      go_wp2_with (refine wpList_loadRow (T := 44) (b := bc) (cs := #[.int .i64 y.client, .int .i64 y.seq, .string ⟨y.token.toArray⟩, .int .i64 y.kind, .string ⟨y.name.toArray⟩, .string ⟨y.other.toArray⟩, .string ⟨y.word.toArray⟩, .string ⟨y.salt.toArray⟩, .int .i64 y.bytes, .int .i64 y.keys, .string ⟨y.gf.toArray⟩, .string ⟨y.gt.toArray⟩, .bool y.gr, .bool y.gw, .int .i64 y.rev, .slice a1 y.ifs.length c1, .slice a2 y.thens.length c2, .slice a3 y.elses.length c3]) rfl (.tmp 4) rfl rfl Try.sCmd (GE.out.blk (List.mem_cons_self ..)) ?_)
      refine HWR.mono ?_
      rintro e Y1 ⟨rfl, kk⟩
      have HK := Lib.hid (GE.out.quiet kk)
      clear kk HWR gb
      have gb := HK.out.bad
      have HO := Lib.hid (HVS.out.trans HK.out.out)
      cases hw : wrongC y with
      | true =>
       have HE : Hid (encC y = ([], 1)) := Lib.hid (by simp [encC, HID.out, hw])
       clear hw
       as_aux_lemma =>
        go_wp2_with fail
        exact bodyPost_ret (results_tmp2 rfl _ _ _) rfl ⟨by rw [HE.out]; rfl, HO.out⟩
      | false =>
       have HWF := Lib.hid hw
       clear hw
       as_aux_lemma =>
        go_wp2_with fail
        refine (ek_bytes HK.out).mono ?_
        rintro e Y2 ⟨rfl, k2⟩
        have HO := Lib.hid (HVS.out.trans k2)
        clear k2 gb
        obtain ⟨r, hr⟩ : ∃ r, r = wbytes (encTail y (encHead y)) := ⟨_, rfl⟩
        rw [← hr]
        have HE0 : Hid (encC y = if r.2 = 0 then (if 8192 < r.1.length then ([], 2) else (r.1, 0)) else ([], r.2)) := Lib.hid (by rw [hr]; simp [encC, HID.out, HWF.out, HBD.out])
        clear hr
        by_cases h0 : r.2 = 0
        ·have hb0 : (r.2 == 0) = true := by simp [h0]
         have hb1 : (r.2 != 0) = false := by simp [h0]
         have HR0 := Lib.hid h0
         clear h0
         by_cases hlen : (8192 : Int) < r.1.length
         ·have hld : decide ((8192 : Int) < r.1.length) = true := decide_eq_true hlen
          have HE : Hid (encC y = ([], 2)) := Lib.hid (by rw [HE0.out, if_pos HR0.out, if_pos (by omega)])
          clear hlen
          as_aux_lemma =>
           go_wp2_with fail
           exact bodyPost_ret (results_tmp2 rfl _ _ _) rfl ⟨by rw [HE.out]; rfl, HO.out⟩
         ·have hld : decide ((8192 : Int) < r.1.length) = false := decide_eq_false hlen
          have HE : Hid (encC y = (r.1, 0)) := Lib.hid (by rw [HE0.out, if_pos HR0.out, if_neg (by omega)])
          clear hlen
          as_aux_lemma =>
           go_wp2_with fail
           exact bodyPost_ret (results_tmp2 rfl _ _ _) rfl ⟨by rw [HE.out]; rfl, HO.out⟩
        ·have hb0 : (r.2 == 0) = false := by simp [h0]
         have hb1 : (r.2 != 0) = true := by simp [h0]
         have HE : Hid (encC y = ([], r.2)) := Lib.hid (by rw [HE0.out, if_neg h0])
         clear h0
         as_aux_lemma =>
          go_wp2_with fail
          exact bodyPost_ret (results_tmp2 rfl _ _ _) rfl ⟨by rw [HE.out]; rfl, HO.out⟩
end Go.Proofs.Ytjfaplmojpldhaa
