/-
  Decode: the request of bytes. Condition: at most 2^40 bytes.
-/
import Derived.Test.YtifjnpdnnfdcoaaReqLP
import Derived.Test.YtifjnpdnnfdcoaaReqK
import Derived.Test.YtifjnpdnnfdcoaaReqD
import Derived.Test.YtifjnpdnnfdcoaaReqE
import Derived.Deep.DeepCutAuto
import Derived.Deep.CutBlock
namespace Go.Proofs.Ytifjnpdnnfdcoaa
open Go.RowKit
set_option linter.unusedSimpArgs false
set_option linter.unusedVariables false
set_option maxRecDepth 100000

theorem rd7_apart {w w' : World} {b : Nat} {T : TypeId} {cs : Array Value} {a : Option Addr} {l : List Da} (h : Rd w 7 a l.length (dacs l)) (hb : Blk w b T cs) (hs : cs.size ≤ 4) (k : Step [b] [b] w w') : Rd w' 7 a l.length (dacs l) := by
  cases l with
  | nil => exact ⟨rfl, by simp, by simp [dacs]⟩
  | cons d l =>
    obtain ⟨g, off, rfl⟩ := h.some_ (by simp)
    refine h.step k (fun g' hg e => ?_)
    simp [blks] at hg e
    subst hg
    subst e
    have q := (rd_da h (k := 0) (d := d) rfl).2.2.2.2.2.2
    have q2 := hb.cell (off + 0 * 7 + 6)
    rw [q, Array.getElem?_eq_none (by omega)] at q2
    cases q2
theorem rd4_apart {w w' : World} {b : Nat} {T : TypeId} {a : Option Addr} {l : List Cp} (h : Rd w 4 a l.length (cpcs l)) (hb : Blk w b T rqZ) (k : Step [b] [b] w w') : Rd w' 4 a l.length (cpcs l) := by
  cases l with
  | nil => exact ⟨rfl, by simp, by simp [cpcs]⟩
  | cons d l =>
    obtain ⟨g, off, rfl⟩ := h.some_ (by simp)
    refine h.step k (fun g' hg e => ?_)
    simp [blks] at hg e
    subst hg
    subst e
    have q := rd_cp h (k := 0) (d := d) rfl
    have q1 := hb.cell (off + 0 * 4)
    have q2 := hb.cell (off + 0 * 4 + 3)
    rw [q.1] at q1
    rw [q.2.2.2] at q2
    by_cases h0 : off = 0
    · subst h0
      simp at q1
    · rw [Array.getElem?_eq_none (by simp; omega)] at q2
      cases q2
theorem rqZ_one : rqZ.all (·.oneCell') = true := by simp [Value.oneCell']
theorem bodyV_iface (y : Cm) (s1 s2 s3 : Value) : ∃ T V, bodyV y s1 s2 s3 = .iface T V := by
  unfold bodyV
  repeat' split
  all_goals exact ⟨_, _, rfl⟩
theorem isreq_own {w w' : World} {b : Nat} {T : TypeId} {y : Cm} {v : Value} (h : IsReq w y v) (hb : Blk w b T rqZ) (k : Step [b] [b] w w') : IsReq w' y v := by
  obtain ⟨a1, c1, a2, c2, a3, c3, h1, h2⟩ := h.at_
  exact ⟨h.kind, h.clean, ⟨a1, c1, a2, c2, a3, c3, h1, ⟨rd4_apart h2.i hb k, rd7_apart h2.t hb (by simp) k, rd7_apart h2.e hb (by simp) k⟩⟩, h.len⟩
/-- A request that was read, or none. -/
def DecP (s : List UInt8) (w : World) (e : Ending) (w' : World) : Prop :=
  ((∃ y m, decC s = some y ∧ e = .returned (.tuple #[m, .int .i64 0]) ∧ IsReq w' y m) ∨ (decC s = none ∧ e = .returned (.tuple #[.agg rqZ, .int .i64 3]))) ∧ Step [] [] w w'

set_option maxHeartbeats 40000000 in
theorem decodeQ_any (s : List UInt8) (w : World) (hs : s.length ≤ 1099511627776) : Calls Try.prog 16 #[Str s] w (DecP s w) := by
  have HS := Lib.hid hs
  clear hs
  go_enter Try.func16, Try.ntmps16
  by_cases hlen : (8192 : Int) < s.length
  · have hld : decide ((8192 : Int) < s.length) = true := decide_eq_true hlen
    have HE : Hid (decC s = none) := Lib.hid (by unfold decC; rw [if_pos (by omega)])
    clear hlen
    go_wp2_with fail
    exact bodyPost_ret (res_row2 rfl _ rfl Try.sReq (Blk.new w 35 rqZ)) rfl ⟨.inr ⟨HE.out, rfl⟩, (Step.refl [] w).alloc _⟩
  · have hld : decide ((8192 : Int) < s.length) = false := decide_eq_false hlen
    have HLS : Hid (¬ 8192 < s.length) := Lib.hid (by omega)
    clear hlen
    go_wp2_with fail
    refine (read_any s _).mono ?_
    rintro e w1 ⟨rfl, rfl⟩
    go_upto_region 5 with fail
    obtain ⟨rb, hrb⟩ : ∃ rb, rb = w.heap.size := ⟨_, rfl⟩
    obtain ⟨p, hp⟩ : ∃ p, p = rb + 1 := ⟨_, rfl⟩
    obtain ⟨pp, hpp⟩ : ∃ pp, pp = p + 1 := ⟨_, rfl⟩
    obtain ⟨V0, hV0⟩ : ∃ V0, V0 = ((w.alloc (.cells rqZ 35)).alloc (.cells #[Str s, .bool false] 136)).alloc (.cells #[.pointer (some ⟨p, 0, none⟩)] 111) := ⟨_, rfl⟩
    have HV0 : Hid (Dk0 w V0 [(pp, 111, ptrC p), (rb, 35, rqZ)] p ⟨s, false⟩) := Lib.hid (by
      have e1 : (w.alloc (.cells rqZ 35)).heap.size = w.heap.size + 1 := by simp
      have e2 : ((w.alloc (.cells rqZ 35)).alloc (.cells #[Str s, .bool false] 136)).heap.size = w.heap.size + 1 + 1 := by simp
      have b1 := Blk.new (w.alloc (.cells rqZ 35)) 136 #[Str s, .bool false]
      have b2 := Blk.new ((w.alloc (.cells rqZ 35)).alloc (.cells #[Str s, .bool false] 136)) 111 (ptrC (w.heap.size + 1))
      have b0 := ((Blk.new w 35 rqZ).alloc (.cells #[Str s, .bool false] 136)).alloc (.cells #[.pointer (some ⟨w.heap.size + 1, 0, none⟩)] 111)
      rw [e1] at b1
      rw [e2] at b2
      rw [hV0, hpp, hp, hrb]
      refine ⟨b1.alloc _, fun q hq => ?_, ((((Step.refl [] w).alloc _).alloc _).alloc _), by omega, HS.out⟩
      simp only [List.mem_cons, List.mem_nil_iff, or_false] at hq
      rcases hq with rfl | rfl
      · exact ⟨b2, by simp only; omega, by simp only; omega⟩
      · exact ⟨b0, by simp only; omega, by simp only; omega⟩)
    have HPN : Hid (pp ≠ rb) := Lib.hid (by omega)
    first
      | rw [← hrb, ← hp, ← hpp, ← hV0]
      | (rw [show ((w.alloc (.cells #[.int .i64 0, .int .i64 0, .string ⟨#[]⟩, .nilIface] 35)).alloc (.cells #[.string ⟨s.toArray⟩, .bool false] 136)).alloc (.cells #[.pointer (some ⟨w.heap.size + 1, 0, none⟩)] 111) = V0 from by rw [hV0, hp, hrb]]; rw [← hrb, ← hp, ← hpp])
    clear hV0 hrb hp hpp
    obtain ⟨kd, hkd⟩ : ∃ kd, kd = (upto ⟨s, false⟩ 14).1 := ⟨_, rfl⟩
    obtain ⟨sa, hsa⟩ : ∃ sa, sa = (upto ⟨s, false⟩ 14).2 := ⟨_, rfl⟩
    obtain ⟨cc, hcc⟩ : ∃ cc, cc = (rnum sa).1 := ⟨_, rfl⟩
    obtain ⟨sb, hsb⟩ : ∃ sb, sb = (rnum sa).2 := ⟨_, rfl⟩
    obtain ⟨q, hq⟩ : ∃ q, q = (rnum sb).1 := ⟨_, rfl⟩
    obtain ⟨sc, hsc⟩ : ∃ sc, sc = (rnum sb).2 := ⟨_, rfl⟩
    obtain ⟨tk, htk⟩ : ∃ tk, tk = (rtext sc 8192).1 := ⟨_, rfl⟩
    obtain ⟨sd, hsd⟩ : ∃ sd, sd = (rtext sc 8192).2 := ⟨_, rfl⟩
    have HL := Lib.hid (And.intro (And.intro hkd hsa) (And.intro (And.intro hcc hsb) (And.intro (And.intro hq hsc) (And.intro htk hsd))))
    obtain ⟨⟨y, sf⟩, hy⟩ : ∃ r, r = rqK cc q tk kd sd := ⟨_, rfl⟩
    have HRQ := Lib.hid hy.symm
    have HRC : Hid (readC ⟨s, false⟩ = (y, sf)) := Lib.hid (by rw [hy]; unfold readC; rw [← hkd, ← hsa, ← hcc, ← hsb, ← hq, ← hsc, ← htk, ← hsd])
    have HKI : Hid (y.kind = kd ∧ y.client = cc ∧ y.seq = q ∧ y.token = tk) := Lib.hid (by have h9 := rqK_kind cc q tk kd sd; rw [← hy] at h9; exact h9)
    clear hkd hsa hcc hsb hq hsc htk hsd hy
    go_cut [6] (fun v wx => ∃ br, v = .pointer (some ⟨br, 0, none⟩) ∧ Hid (Dk w wx [(pp, 111, ptrC p), (rb, 35, rqZ)] p br sd ⟨cc, q, tk, kd, [], [], [], [], 0, 0, [], [], false, false, 0, [], [], []⟩ none none none 0 0 0))
    case first =>
      as_aux_lemma =>
        have A0 := Lib.hid (HV0.out.quiet ((Step.refl [] _).drew))
        refine wp_region_held_drew (S := fun V => Hid (Blk V pp 111 (ptrC p))) (by kernel_rfl) (Lib.hid (A0.out.blk _ (List.mem_cons_self ..)).1) (fun hHeld => ?_)
        refine wpAnyH_take (i := 0) (v := ?_) rfl (by kernel_rfl) (by kernel_rfl) (by kernel_rfl) (fun _ _ _ h => h) (Or.inl ⟨by rfl, ?_⟩) hHeld ?_
        rotate_left
        · intro w hSw
          have hSw1 := hSw
          clear hSw
          have tc := hSw1.out.cell 0
          have tl := hSw1.out.lt
          simp only [ptrC, List.getElem?_toArray, List.getElem?_cons_zero] at tc
          go_simp
          try (with_reducible rfl)
        try simp only [Act.put, List.setIfInBounds_toArray, List.set_cons_zero, List.set_cons_succ, List.getElem_toArray, List.getElem_cons_zero, List.getElem_cons_succ]
        refine wpAnyH_take (i := 2) (v := ?_) rfl (by kernel_rfl) (by kernel_rfl) (by kernel_rfl) (fun _ _ _ h => h) (Or.inl ⟨by rfl, ?_⟩) hHeld ?_
        rotate_left
        · intro w hSw
          have hSw1 := hSw
          clear hSw
          have tc := hSw1.out.cell 0
          have tl := hSw1.out.lt
          simp only [ptrC, List.getElem?_toArray, List.getElem?_cons_zero] at tc
          go_simp
          try (with_reducible rfl)
        try simp only [Act.put, List.setIfInBounds_toArray, List.set_cons_zero, List.set_cons_succ, List.getElem_toArray, List.getElem_cons_zero, List.getElem_cons_succ]
        refine wpAnyH_take (i := 4) (v := ?_) rfl (by kernel_rfl) (by kernel_rfl) (by kernel_rfl) (fun _ _ _ h => h) (Or.inl ⟨by rfl, ?_⟩) hHeld ?_
        rotate_left
        · intro w hSw
          have hSw1 := hSw
          clear hSw
          have tc := hSw1.out.cell 0
          have tl := hSw1.out.lt
          simp only [ptrC, List.getElem?_toArray, List.getElem?_cons_zero] at tc
          go_simp
          try (with_reducible rfl)
        try simp only [Act.put, List.setIfInBounds_toArray, List.set_cons_zero, List.set_cons_succ, List.getElem_toArray, List.getElem_cons_zero, List.getElem_cons_succ]
        refine wpAnyH_take (i := 6) (v := ?_) rfl (by kernel_rfl) (by kernel_rfl) (by kernel_rfl) (fun _ _ _ h => h) (Or.inl ⟨by rfl, ?_⟩) hHeld ?_
        rotate_left
        · intro w hSw
          have hSw1 := hSw
          clear hSw
          try dsimp only at hSw1
          go_simp
          try (with_reducible rfl)
        try simp only [Act.put, List.setIfInBounds_toArray, List.set_cons_zero, List.set_cons_succ, List.getElem_toArray, List.getElem_cons_zero, List.getElem_cons_succ]
        refine wpAnyH_ready (rs := [1, 9]) (by kernel_rfl) (by simp) ?_
        refine AllReadyH.cons rfl (fun K hK => ?_) (AllReadyH.cons rfl (fun K hK => ?_) (AllReadyH.nil))
        · skip
          go_simp
          refine (dk0_upto A0.out 14).mono ?_; rintro e X1 ⟨rfl, t⟩; rw [← HL.out.1.1]; rw [← HL.out.1.2] at t; have A1 := Lib.hid t; clear t
          go_wp2_with fail
          refine hK.out _ _ (Lib.hid (A1.out.blk _ (List.mem_cons_self ..)).1) (fun hHeld2 => ?_)
          clear hK K hHeld
          try simp only [Act.put, List.setIfInBounds_toArray, List.set_cons_zero, List.set_cons_succ, List.getElem_toArray, List.getElem_cons_zero, List.getElem_cons_succ]
          refine wpAnyH_ready (rs := [3, 9]) (by kernel_rfl) (by simp) ?_
          refine AllReadyH.cons rfl (fun K hK => ?_) (AllReadyH.cons rfl (fun K hK => ?_) (AllReadyH.nil))
          · skip
            go_simp
            refine (dk0_num A1.out).mono ?_; rintro e X2 ⟨rfl, t⟩; rw [← HL.out.2.1.1]; rw [← HL.out.2.1.2] at t; have A2 := Lib.hid t; clear t
            go_wp2_with fail
            refine hK.out _ _ (Lib.hid (A2.out.blk _ (List.mem_cons_self ..)).1) (fun hHeld3 => ?_)
            clear hK K hHeld2
            try simp only [Act.put, List.setIfInBounds_toArray, List.set_cons_zero, List.set_cons_succ, List.getElem_toArray, List.getElem_cons_zero, List.getElem_cons_succ]
            refine wpAnyH_ready (rs := [5, 9]) (by kernel_rfl) (by simp) ?_
            refine AllReadyH.cons rfl (fun K hK => ?_) (AllReadyH.cons rfl (fun K hK => ?_) (AllReadyH.nil))
            · skip
              go_simp
              refine (dk0_num A2.out).mono ?_; rintro e X3 ⟨rfl, t⟩; rw [← HL.out.2.2.1.1]; rw [← HL.out.2.2.1.2] at t; have A3 := Lib.hid t; clear t
              go_wp2_with fail
              refine hK.out _ _ (Lib.hid (A3.out.blk _ (List.mem_cons_self ..)).1) (fun hHeld4 => ?_)
              clear hK K hHeld3
              try simp only [Act.put, List.setIfInBounds_toArray, List.set_cons_zero, List.set_cons_succ, List.getElem_toArray, List.getElem_cons_zero, List.getElem_cons_succ]
              refine wpAnyH_ready (rs := [7, 9]) (by kernel_rfl) (by simp) ?_
              refine AllReadyH.cons rfl (fun K hK => ?_) (AllReadyH.cons rfl (fun K hK => ?_) (AllReadyH.nil))
              · skip
                go_simp
                refine (dk0_text A3.out (List.mem_cons_self ..)).mono ?_; rintro e X4 ⟨rfl, t⟩; rw [← HL.out.2.2.2.1]; rw [← HL.out.2.2.2.2] at t; have A4 := Lib.hid t; clear t
                go_wp2_with fail
                refine hK.out _ _ (Lib.hid (A4.out.blk _ (List.mem_cons_self ..)).1) (fun hHeld5 => ?_)
                clear hK K hHeld4
                try simp only [Act.put, List.setIfInBounds_toArray, List.set_cons_zero, List.set_cons_succ, List.getElem_toArray, List.getElem_cons_zero, List.getElem_cons_succ]
                refine wpAnyH_take (i := 8) (v := ?_) rfl (by kernel_rfl) (by kernel_rfl) (by kernel_rfl) (fun _ _ _ h => h) (Or.inl ⟨by rfl, ?_⟩) hHeld5 ?_
                rotate_left
                · intro w hSw
                  have hSw1 := hSw
                  clear hSw
                  try dsimp only at hSw1
                  go_simp
                  try (with_reducible rfl)
                try simp only [Act.put, List.setIfInBounds_toArray, List.set_cons_zero, List.set_cons_succ, List.getElem_toArray, List.getElem_cons_zero, List.getElem_cons_succ]
                refine wpAnyH_ready (rs := [9]) (by kernel_rfl) (by simp) ?_
                refine AllReadyH.cons rfl (fun K hK => ?_) AllReadyH.nil
                go_simp; go_wp2_with fail; refine letterQ (K := K) ?_; intro X5 hU; obtain ⟨br, hbr⟩ : ∃ br, br = (X4).heap.size := ⟨_, rfl⟩; have t := A4.out.push 29 #[.int .i64 0, .int .i64 0, .string ⟨#[]⟩, .int .i64 0, .string ⟨#[]⟩, .string ⟨#[]⟩, .string ⟨#[]⟩, .string ⟨#[]⟩, .int .i64 0, .int .i64 0, .string ⟨#[]⟩, .string ⟨#[]⟩, .bool false, .bool false, .int .i64 0, .slice none 0 0, .slice none 0 0, .slice none 0 0]; have HNB : Hid (∀ q ∈ [(pp, 111, ptrC p), (rb, 35, rqZ)], q.1 ≠ br) := Lib.hid (by rw [hbr]; exact A4.out.fresh); rw [← hbr] at t; have A5 : Hid (Dk0 w X5 ((br, 29, #[.int .i64 0, .int .i64 0, .string ⟨#[]⟩, .int .i64 0, .string ⟨#[]⟩, .string ⟨#[]⟩, .string ⟨#[]⟩, .string ⟨#[]⟩, .int .i64 0, .int .i64 0, .string ⟨#[]⟩, .string ⟨#[]⟩, .bool false, .bool false, .int .i64 0, .slice none 0 0, .slice none 0 0, .slice none 0 0]) :: [(pp, 111, ptrC p), (rb, 35, rqZ)]) p _) := Lib.hid (by rw [hU]; exact t); (first | rw [← hbr] | (have hbr2 : br = V0.heap.size := hbr; rw [← hbr2]; clear hbr2)); clear hU hbr t
                refine hK.out _ _ (Lib.hid (A5.out.blk _ (List.mem_cons_of_mem _ (List.mem_cons_self ..))).1) (fun hHeld6 => ?_)
                clear hK K hHeld5
                try simp only [Act.put, List.setIfInBounds_toArray, List.set_cons_zero, List.set_cons_succ, List.getElem_toArray, List.getElem_cons_zero, List.getElem_cons_succ]
                refine wpAnyH_ready (rs := [10]) (by kernel_rfl) (by simp) ?_
                refine AllReadyH.cons rfl (fun K hK => ?_) AllReadyH.nil
                refine step_storeOff (v := .agg #[.int .i64 cc, .int .i64 q, Str tk, .int .i64 kd, .string ⟨#[]⟩, .string ⟨#[]⟩, .string ⟨#[]⟩, .string ⟨#[]⟩, .int .i64 0, .int .i64 0, .string ⟨#[]⟩, .string ⟨#[]⟩, .bool false, .bool false, .int .i64 0, .slice none 0 0, .slice none 0 0, .slice none 0 0]) (b := br) (i := 0) (T := 29) (T' := 29) (cs := #[.int .i64 0, .int .i64 0, .string ⟨#[]⟩, .int .i64 0, .string ⟨#[]⟩, .string ⟨#[]⟩, .string ⟨#[]⟩, .string ⟨#[]⟩, .int .i64 0, .int .i64 0, .string ⟨#[]⟩, .string ⟨#[]⟩, .bool false, .bool false, .int .i64 0, .slice none 0 0, .slice none 0 0, .slice none 0 0]) (cs' := (cmc ⟨cc, q, tk, kd, [], [], [], [], 0, 0, [], [], false, false, 0, [], [], []⟩ (.slice none 0 0) (.slice none 0 0) (.slice none 0 0)).toArray) rfl (.tmp 6) (.tmp 24) rfl rfl rfl (by kernel_rfl) (A5.out.blk _ (List.mem_cons_self ..)).1 (by simp [Value.cells]) (by simp [Value.cells, Value.oneCell']) rfl ?_; intro W9 wb wk; have HF := Lib.hid (And.intro wb wk); clear wb wk
                refine hK.out _ _ (Lib.hid (((A5.out.blk _ (List.mem_cons_of_mem _ (List.mem_cons_self ..))).1).step HF.out.2 (by have := HNB.out _ (List.mem_cons_self ..); simpa using this))) (fun hHeld7 => ?_)
                clear hK K hHeld6
                try simp only [Act.put, List.setIfInBounds_toArray, List.set_cons_zero, List.set_cons_succ, List.getElem_toArray, List.getElem_cons_zero, List.getElem_cons_succ]
                refine wpAnyH_done (by kernel_rfl) ?_ _
                have GE : Hid (Dk w W9 [(pp, 111, ptrC p), (rb, 35, rqZ)] p br sd ⟨cc, q, tk, kd, [], [], [], [], 0, 0, [], [], false, false, 0, [], [], []⟩ none none none 0 0 0) := by
                  have fb := (A5.out.blk _ (List.mem_cons_self ..)).2
                  have b0 : ∀ q ∈ [(pp, 111, ptrC p), (rb, 35, rqZ)], Blk W9 q.1 q.2.1 q.2.2 ∧ q.1 ≠ p ∧ w.heap.size ≤ q.1 := fun q hq => by
                    have h9 := A5.out.blk q (List.mem_cons_of_mem _ hq)
                    exact ⟨h9.1.step HF.out.2 (by have := HNB.out q hq; simpa using this), h9.2⟩
                  have d0 : Dk0 w W9 (CB br ⟨cc, q, tk, kd, [], [], [], [], 0, 0, [], [], false, false, 0, [], [], []⟩ none none none 0 0 0 :: [(pp, 111, ptrC p), (rb, 35, rqZ)]) p sd := ⟨Rdr.step A5.out.rdr HF.out.2 (by simpa using fb.1.symm), fun q hq => by
                    rcases List.mem_cons.1 hq with rfl | hq
                    · exact ⟨HF.out.1, fb⟩
                    · exact b0 q hq
                  , A5.out.out.own HF.out.2 fb.2, A5.out.fp, A5.out.len⟩
                  exact Dk.new ⟨d0.rdr, b0, d0.out, d0.fp, d0.len⟩ rfl rfl rfl HNB.out d0
                go_wp2_with fail
                go_meet
                exact ⟨br, rfl, GE⟩
              · skip
                go_simp; go_wp2_with fail; refine letterQ (K := K) ?_; intro X4 hU; obtain ⟨br, hbr⟩ : ∃ br, br = (X3).heap.size := ⟨_, rfl⟩; have t := A3.out.push 29 #[.int .i64 0, .int .i64 0, .string ⟨#[]⟩, .int .i64 0, .string ⟨#[]⟩, .string ⟨#[]⟩, .string ⟨#[]⟩, .string ⟨#[]⟩, .int .i64 0, .int .i64 0, .string ⟨#[]⟩, .string ⟨#[]⟩, .bool false, .bool false, .int .i64 0, .slice none 0 0, .slice none 0 0, .slice none 0 0]; have HNB : Hid (∀ q ∈ [(pp, 111, ptrC p), (rb, 35, rqZ)], q.1 ≠ br) := Lib.hid (by rw [hbr]; exact A3.out.fresh); rw [← hbr] at t; have A4 : Hid (Dk0 w X4 ((br, 29, #[.int .i64 0, .int .i64 0, .string ⟨#[]⟩, .int .i64 0, .string ⟨#[]⟩, .string ⟨#[]⟩, .string ⟨#[]⟩, .string ⟨#[]⟩, .int .i64 0, .int .i64 0, .string ⟨#[]⟩, .string ⟨#[]⟩, .bool false, .bool false, .int .i64 0, .slice none 0 0, .slice none 0 0, .slice none 0 0]) :: [(pp, 111, ptrC p), (rb, 35, rqZ)]) p _) := Lib.hid (by rw [hU]; exact t); (first | rw [← hbr] | (have hbr2 : br = V0.heap.size := hbr; rw [← hbr2]; clear hbr2)); clear hU hbr t
                refine hK.out _ _ (Lib.hid (A4.out.blk _ (List.mem_cons_of_mem _ (List.mem_cons_self ..))).1) (fun hHeld5 => ?_)
                clear hK K hHeld4
                try simp only [Act.put, List.setIfInBounds_toArray, List.set_cons_zero, List.set_cons_succ, List.getElem_toArray, List.getElem_cons_zero, List.getElem_cons_succ]
                refine wpAnyH_ready (rs := [7]) (by kernel_rfl) (by simp) ?_
                refine AllReadyH.cons rfl (fun K hK => ?_) AllReadyH.nil
                go_simp
                refine (dk0_text A4.out (List.mem_cons_of_mem _ (List.mem_cons_self ..))).mono ?_; rintro e X5 ⟨rfl, t⟩; rw [← HL.out.2.2.2.1]; rw [← HL.out.2.2.2.2] at t; have A5 := Lib.hid t; clear t
                go_wp2_with fail
                refine hK.out _ _ (Lib.hid (A5.out.blk _ (List.mem_cons_of_mem _ (List.mem_cons_self ..))).1) (fun hHeld6 => ?_)
                clear hK K hHeld5
                try simp only [Act.put, List.setIfInBounds_toArray, List.set_cons_zero, List.set_cons_succ, List.getElem_toArray, List.getElem_cons_zero, List.getElem_cons_succ]
                refine wpAnyH_take (i := 8) (v := ?_) rfl (by kernel_rfl) (by kernel_rfl) (by kernel_rfl) (fun _ _ _ h => h) (Or.inl ⟨by rfl, ?_⟩) hHeld6 ?_
                rotate_left
                · intro w hSw
                  have hSw1 := hSw
                  clear hSw
                  try dsimp only at hSw1
                  go_simp
                  try (with_reducible rfl)
                try simp only [Act.put, List.setIfInBounds_toArray, List.set_cons_zero, List.set_cons_succ, List.getElem_toArray, List.getElem_cons_zero, List.getElem_cons_succ]
                refine wpAnyH_ready (rs := [10]) (by kernel_rfl) (by simp) ?_
                refine AllReadyH.cons rfl (fun K hK => ?_) AllReadyH.nil
                refine step_storeOff (v := .agg #[.int .i64 cc, .int .i64 q, Str tk, .int .i64 kd, .string ⟨#[]⟩, .string ⟨#[]⟩, .string ⟨#[]⟩, .string ⟨#[]⟩, .int .i64 0, .int .i64 0, .string ⟨#[]⟩, .string ⟨#[]⟩, .bool false, .bool false, .int .i64 0, .slice none 0 0, .slice none 0 0, .slice none 0 0]) (b := br) (i := 0) (T := 29) (T' := 29) (cs := #[.int .i64 0, .int .i64 0, .string ⟨#[]⟩, .int .i64 0, .string ⟨#[]⟩, .string ⟨#[]⟩, .string ⟨#[]⟩, .string ⟨#[]⟩, .int .i64 0, .int .i64 0, .string ⟨#[]⟩, .string ⟨#[]⟩, .bool false, .bool false, .int .i64 0, .slice none 0 0, .slice none 0 0, .slice none 0 0]) (cs' := (cmc ⟨cc, q, tk, kd, [], [], [], [], 0, 0, [], [], false, false, 0, [], [], []⟩ (.slice none 0 0) (.slice none 0 0) (.slice none 0 0)).toArray) rfl (.tmp 6) (.tmp 24) rfl rfl rfl (by kernel_rfl) (A5.out.blk _ (List.mem_cons_self ..)).1 (by simp [Value.cells]) (by simp [Value.cells, Value.oneCell']) rfl ?_; intro W9 wb wk; have HF := Lib.hid (And.intro wb wk); clear wb wk
                refine hK.out _ _ (Lib.hid (((A5.out.blk _ (List.mem_cons_of_mem _ (List.mem_cons_self ..))).1).step HF.out.2 (by have := HNB.out _ (List.mem_cons_self ..); simpa using this))) (fun hHeld7 => ?_)
                clear hK K hHeld6
                try simp only [Act.put, List.setIfInBounds_toArray, List.set_cons_zero, List.set_cons_succ, List.getElem_toArray, List.getElem_cons_zero, List.getElem_cons_succ]
                refine wpAnyH_done (by kernel_rfl) ?_ _
                have GE : Hid (Dk w W9 [(pp, 111, ptrC p), (rb, 35, rqZ)] p br sd ⟨cc, q, tk, kd, [], [], [], [], 0, 0, [], [], false, false, 0, [], [], []⟩ none none none 0 0 0) := by
                  have fb := (A5.out.blk _ (List.mem_cons_self ..)).2
                  have b0 : ∀ q ∈ [(pp, 111, ptrC p), (rb, 35, rqZ)], Blk W9 q.1 q.2.1 q.2.2 ∧ q.1 ≠ p ∧ w.heap.size ≤ q.1 := fun q hq => by
                    have h9 := A5.out.blk q (List.mem_cons_of_mem _ hq)
                    exact ⟨h9.1.step HF.out.2 (by have := HNB.out q hq; simpa using this), h9.2⟩
                  have d0 : Dk0 w W9 (CB br ⟨cc, q, tk, kd, [], [], [], [], 0, 0, [], [], false, false, 0, [], [], []⟩ none none none 0 0 0 :: [(pp, 111, ptrC p), (rb, 35, rqZ)]) p sd := ⟨Rdr.step A5.out.rdr HF.out.2 (by simpa using fb.1.symm), fun q hq => by
                    rcases List.mem_cons.1 hq with rfl | hq
                    · exact ⟨HF.out.1, fb⟩
                    · exact b0 q hq
                  , A5.out.out.own HF.out.2 fb.2, A5.out.fp, A5.out.len⟩
                  exact Dk.new ⟨d0.rdr, b0, d0.out, d0.fp, d0.len⟩ rfl rfl rfl HNB.out d0
                go_wp2_with fail
                go_meet
                exact ⟨br, rfl, GE⟩
            · skip
              go_simp; go_wp2_with fail; refine letterQ (K := K) ?_; intro X3 hU; obtain ⟨br, hbr⟩ : ∃ br, br = (X2).heap.size := ⟨_, rfl⟩; have t := A2.out.push 29 #[.int .i64 0, .int .i64 0, .string ⟨#[]⟩, .int .i64 0, .string ⟨#[]⟩, .string ⟨#[]⟩, .string ⟨#[]⟩, .string ⟨#[]⟩, .int .i64 0, .int .i64 0, .string ⟨#[]⟩, .string ⟨#[]⟩, .bool false, .bool false, .int .i64 0, .slice none 0 0, .slice none 0 0, .slice none 0 0]; have HNB : Hid (∀ q ∈ [(pp, 111, ptrC p), (rb, 35, rqZ)], q.1 ≠ br) := Lib.hid (by rw [hbr]; exact A2.out.fresh); rw [← hbr] at t; have A3 : Hid (Dk0 w X3 ((br, 29, #[.int .i64 0, .int .i64 0, .string ⟨#[]⟩, .int .i64 0, .string ⟨#[]⟩, .string ⟨#[]⟩, .string ⟨#[]⟩, .string ⟨#[]⟩, .int .i64 0, .int .i64 0, .string ⟨#[]⟩, .string ⟨#[]⟩, .bool false, .bool false, .int .i64 0, .slice none 0 0, .slice none 0 0, .slice none 0 0]) :: [(pp, 111, ptrC p), (rb, 35, rqZ)]) p _) := Lib.hid (by rw [hU]; exact t); (first | rw [← hbr] | (have hbr2 : br = V0.heap.size := hbr; rw [← hbr2]; clear hbr2)); clear hU hbr t
              refine hK.out _ _ (Lib.hid (A3.out.blk _ (List.mem_cons_of_mem _ (List.mem_cons_self ..))).1) (fun hHeld4 => ?_)
              clear hK K hHeld3
              try simp only [Act.put, List.setIfInBounds_toArray, List.set_cons_zero, List.set_cons_succ, List.getElem_toArray, List.getElem_cons_zero, List.getElem_cons_succ]
              refine wpAnyH_ready (rs := [5]) (by kernel_rfl) (by simp) ?_
              refine AllReadyH.cons rfl (fun K hK => ?_) AllReadyH.nil
              go_simp
              refine (dk0_num A3.out).mono ?_; rintro e X4 ⟨rfl, t⟩; rw [← HL.out.2.2.1.1]; rw [← HL.out.2.2.1.2] at t; have A4 := Lib.hid t; clear t
              go_wp2_with fail
              refine hK.out _ _ (Lib.hid (A4.out.blk _ (List.mem_cons_of_mem _ (List.mem_cons_self ..))).1) (fun hHeld5 => ?_)
              clear hK K hHeld4
              try simp only [Act.put, List.setIfInBounds_toArray, List.set_cons_zero, List.set_cons_succ, List.getElem_toArray, List.getElem_cons_zero, List.getElem_cons_succ]
              refine wpAnyH_ready (rs := [7]) (by kernel_rfl) (by simp) ?_
              refine AllReadyH.cons rfl (fun K hK => ?_) AllReadyH.nil
              go_simp
              refine (dk0_text A4.out (List.mem_cons_of_mem _ (List.mem_cons_self ..))).mono ?_; rintro e X5 ⟨rfl, t⟩; rw [← HL.out.2.2.2.1]; rw [← HL.out.2.2.2.2] at t; have A5 := Lib.hid t; clear t
              go_wp2_with fail
              refine hK.out _ _ (Lib.hid (A5.out.blk _ (List.mem_cons_of_mem _ (List.mem_cons_self ..))).1) (fun hHeld6 => ?_)
              clear hK K hHeld5
              try simp only [Act.put, List.setIfInBounds_toArray, List.set_cons_zero, List.set_cons_succ, List.getElem_toArray, List.getElem_cons_zero, List.getElem_cons_succ]
              refine wpAnyH_take (i := 8) (v := ?_) rfl (by kernel_rfl) (by kernel_rfl) (by kernel_rfl) (fun _ _ _ h => h) (Or.inl ⟨by rfl, ?_⟩) hHeld6 ?_
              rotate_left
              · intro w hSw
                have hSw1 := hSw
                clear hSw
                try dsimp only at hSw1
                go_simp
                try (with_reducible rfl)
              try simp only [Act.put, List.setIfInBounds_toArray, List.set_cons_zero, List.set_cons_succ, List.getElem_toArray, List.getElem_cons_zero, List.getElem_cons_succ]
              refine wpAnyH_ready (rs := [10]) (by kernel_rfl) (by simp) ?_
              refine AllReadyH.cons rfl (fun K hK => ?_) AllReadyH.nil
              refine step_storeOff (v := .agg #[.int .i64 cc, .int .i64 q, Str tk, .int .i64 kd, .string ⟨#[]⟩, .string ⟨#[]⟩, .string ⟨#[]⟩, .string ⟨#[]⟩, .int .i64 0, .int .i64 0, .string ⟨#[]⟩, .string ⟨#[]⟩, .bool false, .bool false, .int .i64 0, .slice none 0 0, .slice none 0 0, .slice none 0 0]) (b := br) (i := 0) (T := 29) (T' := 29) (cs := #[.int .i64 0, .int .i64 0, .string ⟨#[]⟩, .int .i64 0, .string ⟨#[]⟩, .string ⟨#[]⟩, .string ⟨#[]⟩, .string ⟨#[]⟩, .int .i64 0, .int .i64 0, .string ⟨#[]⟩, .string ⟨#[]⟩, .bool false, .bool false, .int .i64 0, .slice none 0 0, .slice none 0 0, .slice none 0 0]) (cs' := (cmc ⟨cc, q, tk, kd, [], [], [], [], 0, 0, [], [], false, false, 0, [], [], []⟩ (.slice none 0 0) (.slice none 0 0) (.slice none 0 0)).toArray) rfl (.tmp 6) (.tmp 24) rfl rfl rfl (by kernel_rfl) (A5.out.blk _ (List.mem_cons_self ..)).1 (by simp [Value.cells]) (by simp [Value.cells, Value.oneCell']) rfl ?_; intro W9 wb wk; have HF := Lib.hid (And.intro wb wk); clear wb wk
              refine hK.out _ _ (Lib.hid (((A5.out.blk _ (List.mem_cons_of_mem _ (List.mem_cons_self ..))).1).step HF.out.2 (by have := HNB.out _ (List.mem_cons_self ..); simpa using this))) (fun hHeld7 => ?_)
              clear hK K hHeld6
              try simp only [Act.put, List.setIfInBounds_toArray, List.set_cons_zero, List.set_cons_succ, List.getElem_toArray, List.getElem_cons_zero, List.getElem_cons_succ]
              refine wpAnyH_done (by kernel_rfl) ?_ _
              have GE : Hid (Dk w W9 [(pp, 111, ptrC p), (rb, 35, rqZ)] p br sd ⟨cc, q, tk, kd, [], [], [], [], 0, 0, [], [], false, false, 0, [], [], []⟩ none none none 0 0 0) := by
                have fb := (A5.out.blk _ (List.mem_cons_self ..)).2
                have b0 : ∀ q ∈ [(pp, 111, ptrC p), (rb, 35, rqZ)], Blk W9 q.1 q.2.1 q.2.2 ∧ q.1 ≠ p ∧ w.heap.size ≤ q.1 := fun q hq => by
                  have h9 := A5.out.blk q (List.mem_cons_of_mem _ hq)
                  exact ⟨h9.1.step HF.out.2 (by have := HNB.out q hq; simpa using this), h9.2⟩
                have d0 : Dk0 w W9 (CB br ⟨cc, q, tk, kd, [], [], [], [], 0, 0, [], [], false, false, 0, [], [], []⟩ none none none 0 0 0 :: [(pp, 111, ptrC p), (rb, 35, rqZ)]) p sd := ⟨Rdr.step A5.out.rdr HF.out.2 (by simpa using fb.1.symm), fun q hq => by
                  rcases List.mem_cons.1 hq with rfl | hq
                  · exact ⟨HF.out.1, fb⟩
                  · exact b0 q hq
                , A5.out.out.own HF.out.2 fb.2, A5.out.fp, A5.out.len⟩
                exact Dk.new ⟨d0.rdr, b0, d0.out, d0.fp, d0.len⟩ rfl rfl rfl HNB.out d0
              go_wp2_with fail
              go_meet
              exact ⟨br, rfl, GE⟩
          · skip
            go_simp; go_wp2_with fail; refine letterQ (K := K) ?_; intro X2 hU; obtain ⟨br, hbr⟩ : ∃ br, br = (X1).heap.size := ⟨_, rfl⟩; have t := A1.out.push 29 #[.int .i64 0, .int .i64 0, .string ⟨#[]⟩, .int .i64 0, .string ⟨#[]⟩, .string ⟨#[]⟩, .string ⟨#[]⟩, .string ⟨#[]⟩, .int .i64 0, .int .i64 0, .string ⟨#[]⟩, .string ⟨#[]⟩, .bool false, .bool false, .int .i64 0, .slice none 0 0, .slice none 0 0, .slice none 0 0]; have HNB : Hid (∀ q ∈ [(pp, 111, ptrC p), (rb, 35, rqZ)], q.1 ≠ br) := Lib.hid (by rw [hbr]; exact A1.out.fresh); rw [← hbr] at t; have A2 : Hid (Dk0 w X2 ((br, 29, #[.int .i64 0, .int .i64 0, .string ⟨#[]⟩, .int .i64 0, .string ⟨#[]⟩, .string ⟨#[]⟩, .string ⟨#[]⟩, .string ⟨#[]⟩, .int .i64 0, .int .i64 0, .string ⟨#[]⟩, .string ⟨#[]⟩, .bool false, .bool false, .int .i64 0, .slice none 0 0, .slice none 0 0, .slice none 0 0]) :: [(pp, 111, ptrC p), (rb, 35, rqZ)]) p _) := Lib.hid (by rw [hU]; exact t); (first | rw [← hbr] | (have hbr2 : br = V0.heap.size := hbr; rw [← hbr2]; clear hbr2)); clear hU hbr t
            refine hK.out _ _ (Lib.hid (A2.out.blk _ (List.mem_cons_of_mem _ (List.mem_cons_self ..))).1) (fun hHeld3 => ?_)
            clear hK K hHeld2
            try simp only [Act.put, List.setIfInBounds_toArray, List.set_cons_zero, List.set_cons_succ, List.getElem_toArray, List.getElem_cons_zero, List.getElem_cons_succ]
            refine wpAnyH_ready (rs := [3]) (by kernel_rfl) (by simp) ?_
            refine AllReadyH.cons rfl (fun K hK => ?_) AllReadyH.nil
            go_simp
            refine (dk0_num A2.out).mono ?_; rintro e X3 ⟨rfl, t⟩; rw [← HL.out.2.1.1]; rw [← HL.out.2.1.2] at t; have A3 := Lib.hid t; clear t
            go_wp2_with fail
            refine hK.out _ _ (Lib.hid (A3.out.blk _ (List.mem_cons_of_mem _ (List.mem_cons_self ..))).1) (fun hHeld4 => ?_)
            clear hK K hHeld3
            try simp only [Act.put, List.setIfInBounds_toArray, List.set_cons_zero, List.set_cons_succ, List.getElem_toArray, List.getElem_cons_zero, List.getElem_cons_succ]
            refine wpAnyH_ready (rs := [5]) (by kernel_rfl) (by simp) ?_
            refine AllReadyH.cons rfl (fun K hK => ?_) AllReadyH.nil
            go_simp
            refine (dk0_num A3.out).mono ?_; rintro e X4 ⟨rfl, t⟩; rw [← HL.out.2.2.1.1]; rw [← HL.out.2.2.1.2] at t; have A4 := Lib.hid t; clear t
            go_wp2_with fail
            refine hK.out _ _ (Lib.hid (A4.out.blk _ (List.mem_cons_of_mem _ (List.mem_cons_self ..))).1) (fun hHeld5 => ?_)
            clear hK K hHeld4
            try simp only [Act.put, List.setIfInBounds_toArray, List.set_cons_zero, List.set_cons_succ, List.getElem_toArray, List.getElem_cons_zero, List.getElem_cons_succ]
            refine wpAnyH_ready (rs := [7]) (by kernel_rfl) (by simp) ?_
            refine AllReadyH.cons rfl (fun K hK => ?_) AllReadyH.nil
            go_simp
            refine (dk0_text A4.out (List.mem_cons_of_mem _ (List.mem_cons_self ..))).mono ?_; rintro e X5 ⟨rfl, t⟩; rw [← HL.out.2.2.2.1]; rw [← HL.out.2.2.2.2] at t; have A5 := Lib.hid t; clear t
            go_wp2_with fail
            refine hK.out _ _ (Lib.hid (A5.out.blk _ (List.mem_cons_of_mem _ (List.mem_cons_self ..))).1) (fun hHeld6 => ?_)
            clear hK K hHeld5
            try simp only [Act.put, List.setIfInBounds_toArray, List.set_cons_zero, List.set_cons_succ, List.getElem_toArray, List.getElem_cons_zero, List.getElem_cons_succ]
            refine wpAnyH_take (i := 8) (v := ?_) rfl (by kernel_rfl) (by kernel_rfl) (by kernel_rfl) (fun _ _ _ h => h) (Or.inl ⟨by rfl, ?_⟩) hHeld6 ?_
            rotate_left
            · intro w hSw
              have hSw1 := hSw
              clear hSw
              try dsimp only at hSw1
              go_simp
              try (with_reducible rfl)
            try simp only [Act.put, List.setIfInBounds_toArray, List.set_cons_zero, List.set_cons_succ, List.getElem_toArray, List.getElem_cons_zero, List.getElem_cons_succ]
            refine wpAnyH_ready (rs := [10]) (by kernel_rfl) (by simp) ?_
            refine AllReadyH.cons rfl (fun K hK => ?_) AllReadyH.nil
            refine step_storeOff (v := .agg #[.int .i64 cc, .int .i64 q, Str tk, .int .i64 kd, .string ⟨#[]⟩, .string ⟨#[]⟩, .string ⟨#[]⟩, .string ⟨#[]⟩, .int .i64 0, .int .i64 0, .string ⟨#[]⟩, .string ⟨#[]⟩, .bool false, .bool false, .int .i64 0, .slice none 0 0, .slice none 0 0, .slice none 0 0]) (b := br) (i := 0) (T := 29) (T' := 29) (cs := #[.int .i64 0, .int .i64 0, .string ⟨#[]⟩, .int .i64 0, .string ⟨#[]⟩, .string ⟨#[]⟩, .string ⟨#[]⟩, .string ⟨#[]⟩, .int .i64 0, .int .i64 0, .string ⟨#[]⟩, .string ⟨#[]⟩, .bool false, .bool false, .int .i64 0, .slice none 0 0, .slice none 0 0, .slice none 0 0]) (cs' := (cmc ⟨cc, q, tk, kd, [], [], [], [], 0, 0, [], [], false, false, 0, [], [], []⟩ (.slice none 0 0) (.slice none 0 0) (.slice none 0 0)).toArray) rfl (.tmp 6) (.tmp 24) rfl rfl rfl (by kernel_rfl) (A5.out.blk _ (List.mem_cons_self ..)).1 (by simp [Value.cells]) (by simp [Value.cells, Value.oneCell']) rfl ?_; intro W9 wb wk; have HF := Lib.hid (And.intro wb wk); clear wb wk
            refine hK.out _ _ (Lib.hid (((A5.out.blk _ (List.mem_cons_of_mem _ (List.mem_cons_self ..))).1).step HF.out.2 (by have := HNB.out _ (List.mem_cons_self ..); simpa using this))) (fun hHeld7 => ?_)
            clear hK K hHeld6
            try simp only [Act.put, List.setIfInBounds_toArray, List.set_cons_zero, List.set_cons_succ, List.getElem_toArray, List.getElem_cons_zero, List.getElem_cons_succ]
            refine wpAnyH_done (by kernel_rfl) ?_ _
            have GE : Hid (Dk w W9 [(pp, 111, ptrC p), (rb, 35, rqZ)] p br sd ⟨cc, q, tk, kd, [], [], [], [], 0, 0, [], [], false, false, 0, [], [], []⟩ none none none 0 0 0) := by
              have fb := (A5.out.blk _ (List.mem_cons_self ..)).2
              have b0 : ∀ q ∈ [(pp, 111, ptrC p), (rb, 35, rqZ)], Blk W9 q.1 q.2.1 q.2.2 ∧ q.1 ≠ p ∧ w.heap.size ≤ q.1 := fun q hq => by
                have h9 := A5.out.blk q (List.mem_cons_of_mem _ hq)
                exact ⟨h9.1.step HF.out.2 (by have := HNB.out q hq; simpa using this), h9.2⟩
              have d0 : Dk0 w W9 (CB br ⟨cc, q, tk, kd, [], [], [], [], 0, 0, [], [], false, false, 0, [], [], []⟩ none none none 0 0 0 :: [(pp, 111, ptrC p), (rb, 35, rqZ)]) p sd := ⟨Rdr.step A5.out.rdr HF.out.2 (by simpa using fb.1.symm), fun q hq => by
                rcases List.mem_cons.1 hq with rfl | hq
                · exact ⟨HF.out.1, fb⟩
                · exact b0 q hq
              , A5.out.out.own HF.out.2 fb.2, A5.out.fp, A5.out.len⟩
              exact Dk.new ⟨d0.rdr, b0, d0.out, d0.fp, d0.len⟩ rfl rfl rfl HNB.out d0
            go_wp2_with fail
            go_meet
            exact ⟨br, rfl, GE⟩
        · skip
          go_simp; go_wp2_with fail; refine letterQ (K := K) ?_; intro X1 hU; obtain ⟨br, hbr⟩ : ∃ br, br = (V0.drew).heap.size := ⟨_, rfl⟩; have t := A0.out.push 29 #[.int .i64 0, .int .i64 0, .string ⟨#[]⟩, .int .i64 0, .string ⟨#[]⟩, .string ⟨#[]⟩, .string ⟨#[]⟩, .string ⟨#[]⟩, .int .i64 0, .int .i64 0, .string ⟨#[]⟩, .string ⟨#[]⟩, .bool false, .bool false, .int .i64 0, .slice none 0 0, .slice none 0 0, .slice none 0 0]; have HNB : Hid (∀ q ∈ [(pp, 111, ptrC p), (rb, 35, rqZ)], q.1 ≠ br) := Lib.hid (by rw [hbr]; exact A0.out.fresh); rw [← hbr] at t; have A1 : Hid (Dk0 w X1 ((br, 29, #[.int .i64 0, .int .i64 0, .string ⟨#[]⟩, .int .i64 0, .string ⟨#[]⟩, .string ⟨#[]⟩, .string ⟨#[]⟩, .string ⟨#[]⟩, .int .i64 0, .int .i64 0, .string ⟨#[]⟩, .string ⟨#[]⟩, .bool false, .bool false, .int .i64 0, .slice none 0 0, .slice none 0 0, .slice none 0 0]) :: [(pp, 111, ptrC p), (rb, 35, rqZ)]) p _) := Lib.hid (by rw [hU]; exact t); (first | rw [← hbr] | (have hbr2 : br = V0.heap.size := hbr; rw [← hbr2]; clear hbr2)); clear hU hbr t
          refine hK.out _ _ (Lib.hid (A1.out.blk _ (List.mem_cons_of_mem _ (List.mem_cons_self ..))).1) (fun hHeld2 => ?_)
          clear hK K hHeld
          try simp only [Act.put, List.setIfInBounds_toArray, List.set_cons_zero, List.set_cons_succ, List.getElem_toArray, List.getElem_cons_zero, List.getElem_cons_succ]
          refine wpAnyH_ready (rs := [1]) (by kernel_rfl) (by simp) ?_
          refine AllReadyH.cons rfl (fun K hK => ?_) AllReadyH.nil
          go_simp
          refine (dk0_upto A1.out 14).mono ?_; rintro e X2 ⟨rfl, t⟩; rw [← HL.out.1.1]; rw [← HL.out.1.2] at t; have A2 := Lib.hid t; clear t
          go_wp2_with fail
          refine hK.out _ _ (Lib.hid (A2.out.blk _ (List.mem_cons_of_mem _ (List.mem_cons_self ..))).1) (fun hHeld3 => ?_)
          clear hK K hHeld2
          try simp only [Act.put, List.setIfInBounds_toArray, List.set_cons_zero, List.set_cons_succ, List.getElem_toArray, List.getElem_cons_zero, List.getElem_cons_succ]
          refine wpAnyH_ready (rs := [3]) (by kernel_rfl) (by simp) ?_
          refine AllReadyH.cons rfl (fun K hK => ?_) AllReadyH.nil
          go_simp
          refine (dk0_num A2.out).mono ?_; rintro e X3 ⟨rfl, t⟩; rw [← HL.out.2.1.1]; rw [← HL.out.2.1.2] at t; have A3 := Lib.hid t; clear t
          go_wp2_with fail
          refine hK.out _ _ (Lib.hid (A3.out.blk _ (List.mem_cons_of_mem _ (List.mem_cons_self ..))).1) (fun hHeld4 => ?_)
          clear hK K hHeld3
          try simp only [Act.put, List.setIfInBounds_toArray, List.set_cons_zero, List.set_cons_succ, List.getElem_toArray, List.getElem_cons_zero, List.getElem_cons_succ]
          refine wpAnyH_ready (rs := [5]) (by kernel_rfl) (by simp) ?_
          refine AllReadyH.cons rfl (fun K hK => ?_) AllReadyH.nil
          go_simp
          refine (dk0_num A3.out).mono ?_; rintro e X4 ⟨rfl, t⟩; rw [← HL.out.2.2.1.1]; rw [← HL.out.2.2.1.2] at t; have A4 := Lib.hid t; clear t
          go_wp2_with fail
          refine hK.out _ _ (Lib.hid (A4.out.blk _ (List.mem_cons_of_mem _ (List.mem_cons_self ..))).1) (fun hHeld5 => ?_)
          clear hK K hHeld4
          try simp only [Act.put, List.setIfInBounds_toArray, List.set_cons_zero, List.set_cons_succ, List.getElem_toArray, List.getElem_cons_zero, List.getElem_cons_succ]
          refine wpAnyH_ready (rs := [7]) (by kernel_rfl) (by simp) ?_
          refine AllReadyH.cons rfl (fun K hK => ?_) AllReadyH.nil
          go_simp
          refine (dk0_text A4.out (List.mem_cons_of_mem _ (List.mem_cons_self ..))).mono ?_; rintro e X5 ⟨rfl, t⟩; rw [← HL.out.2.2.2.1]; rw [← HL.out.2.2.2.2] at t; have A5 := Lib.hid t; clear t
          go_wp2_with fail
          refine hK.out _ _ (Lib.hid (A5.out.blk _ (List.mem_cons_of_mem _ (List.mem_cons_self ..))).1) (fun hHeld6 => ?_)
          clear hK K hHeld5
          try simp only [Act.put, List.setIfInBounds_toArray, List.set_cons_zero, List.set_cons_succ, List.getElem_toArray, List.getElem_cons_zero, List.getElem_cons_succ]
          refine wpAnyH_take (i := 8) (v := ?_) rfl (by kernel_rfl) (by kernel_rfl) (by kernel_rfl) (fun _ _ _ h => h) (Or.inl ⟨by rfl, ?_⟩) hHeld6 ?_
          rotate_left
          · intro w hSw
            have hSw1 := hSw
            clear hSw
            try dsimp only at hSw1
            go_simp
            try (with_reducible rfl)
          try simp only [Act.put, List.setIfInBounds_toArray, List.set_cons_zero, List.set_cons_succ, List.getElem_toArray, List.getElem_cons_zero, List.getElem_cons_succ]
          refine wpAnyH_ready (rs := [10]) (by kernel_rfl) (by simp) ?_
          refine AllReadyH.cons rfl (fun K hK => ?_) AllReadyH.nil
          refine step_storeOff (v := .agg #[.int .i64 cc, .int .i64 q, Str tk, .int .i64 kd, .string ⟨#[]⟩, .string ⟨#[]⟩, .string ⟨#[]⟩, .string ⟨#[]⟩, .int .i64 0, .int .i64 0, .string ⟨#[]⟩, .string ⟨#[]⟩, .bool false, .bool false, .int .i64 0, .slice none 0 0, .slice none 0 0, .slice none 0 0]) (b := br) (i := 0) (T := 29) (T' := 29) (cs := #[.int .i64 0, .int .i64 0, .string ⟨#[]⟩, .int .i64 0, .string ⟨#[]⟩, .string ⟨#[]⟩, .string ⟨#[]⟩, .string ⟨#[]⟩, .int .i64 0, .int .i64 0, .string ⟨#[]⟩, .string ⟨#[]⟩, .bool false, .bool false, .int .i64 0, .slice none 0 0, .slice none 0 0, .slice none 0 0]) (cs' := (cmc ⟨cc, q, tk, kd, [], [], [], [], 0, 0, [], [], false, false, 0, [], [], []⟩ (.slice none 0 0) (.slice none 0 0) (.slice none 0 0)).toArray) rfl (.tmp 6) (.tmp 24) rfl rfl rfl (by kernel_rfl) (A5.out.blk _ (List.mem_cons_self ..)).1 (by simp [Value.cells]) (by simp [Value.cells, Value.oneCell']) rfl ?_; intro W9 wb wk; have HF := Lib.hid (And.intro wb wk); clear wb wk
          refine hK.out _ _ (Lib.hid (((A5.out.blk _ (List.mem_cons_of_mem _ (List.mem_cons_self ..))).1).step HF.out.2 (by have := HNB.out _ (List.mem_cons_self ..); simpa using this))) (fun hHeld7 => ?_)
          clear hK K hHeld6
          try simp only [Act.put, List.setIfInBounds_toArray, List.set_cons_zero, List.set_cons_succ, List.getElem_toArray, List.getElem_cons_zero, List.getElem_cons_succ]
          refine wpAnyH_done (by kernel_rfl) ?_ _
          have GE : Hid (Dk w W9 [(pp, 111, ptrC p), (rb, 35, rqZ)] p br sd ⟨cc, q, tk, kd, [], [], [], [], 0, 0, [], [], false, false, 0, [], [], []⟩ none none none 0 0 0) := by
            have fb := (A5.out.blk _ (List.mem_cons_self ..)).2
            have b0 : ∀ q ∈ [(pp, 111, ptrC p), (rb, 35, rqZ)], Blk W9 q.1 q.2.1 q.2.2 ∧ q.1 ≠ p ∧ w.heap.size ≤ q.1 := fun q hq => by
              have h9 := A5.out.blk q (List.mem_cons_of_mem _ hq)
              exact ⟨h9.1.step HF.out.2 (by have := HNB.out q hq; simpa using this), h9.2⟩
            have d0 : Dk0 w W9 (CB br ⟨cc, q, tk, kd, [], [], [], [], 0, 0, [], [], false, false, 0, [], [], []⟩ none none none 0 0 0 :: [(pp, 111, ptrC p), (rb, 35, rqZ)]) p sd := ⟨Rdr.step A5.out.rdr HF.out.2 (by simpa using fb.1.symm), fun q hq => by
              rcases List.mem_cons.1 hq with rfl | hq
              · exact ⟨HF.out.1, fb⟩
              · exact b0 q hq
            , A5.out.out.own HF.out.2 fb.2, A5.out.fp, A5.out.len⟩
            exact Dk.new ⟨d0.rdr, b0, d0.out, d0.fp, d0.len⟩ rfl rfl rfl HNB.out d0
          go_wp2_with fail
          go_meet
          exact ⟨br, rfl, GE⟩
    case rest =>
      rename World => VV
      obtain ⟨br, rfl, hH0⟩ := hcut
      have H0 : Hid (Dk w VV [(pp, 111, ptrC p), (rb, 35, rqZ)] p br sd ⟨cc, q, tk, kd, [], [], [], [], 0, 0, [], [], false, false, 0, [], [], []⟩ none none none 0 0 0) := hH0
      clear hH0 HV0 HL
      obtain ⟨⟨m0, m1, m2, m3, m4, m5, m6, m7, m8, m9, m10, m11, m12, m13, m14, m15, m16, m17⟩, ml, mf0, mf1, mf2, mf3, mf4, mf5, mf6, mf7, mf8, mf9, mf10, mf11, mf12, mf13, mf14, mf15, mf16, mf17⟩ := Blk.all18 (H0.out.cmd)
      try dsimp only at m0 m1 m2 m3 m4 m5 m6 m7 m8 m9 m10 m11 m12 m13 m14 m15 m16 m17
      go_upto_block 0 with fail
      clear m0 m1 m2 m3 m4 m5 m6 m7 m8 m9 m10 m11 m12 m13 m14 m15 m16 m17 ml mf0 mf1 mf2 mf3 mf4 mf5 mf6 mf7 mf8 mf9 mf10 mf11 mf12 mf13 mf14 mf15 mf16 mf17
      go_cut [] (fun wx => Hid (∃ a1 c1 a2 c2 a3 c3, Dk w wx [(pp, 111, ptrC p), (rb, 35, rqZ)] p br sf y a1 a2 a3 c1 c2 c3 ∧ LenC y))
      case first =>
        by_cases hk : 1 ≤ kd ∧ kd ≤ 14
        · obtain hk | hk | hk | hk | hk | hk | hk | hk | hk | hk | hk | hk | hk | hk : kd = 1 ∨ kd = 2 ∨ kd = 3 ∨ kd = 4 ∨ kd = 5 ∨ kd = 6 ∨ kd = 7 ∨ kd = 8 ∨ kd = 9 ∨ kd = 10 ∨ kd = 11 ∨ kd = 12 ∨ kd = 13 ∨ kd = 14 := by omega
          · as_aux_lemma =>
              have HKN := Lib.hid hk
              have k1 : (kd == 1) = true := by simp [hk]
              have k2 : (kd == 2) = false := by simp [hk]
              have k3 : (kd == 3) = false := by simp [hk]
              have k4 : (kd == 4) = false := by simp [hk]
              have k5 : (kd == 5) = false := by simp [hk]
              have k6 : (kd == 6) = false := by simp [hk]
              have k7 : (kd == 7) = false := by simp [hk]
              have k8 : (kd == 8) = false := by simp [hk]
              have k9 : (kd == 9) = false := by simp [hk]
              have k10 : (kd == 10) = false := by simp [hk]
              have k11 : (kd == 11) = false := by simp [hk]
              have k12 : (kd == 12) = false := by simp [hk]
              have k13 : (kd == 13) = false := by simp [hk]
              have k14 : (kd == 14) = false := by simp [hk]
              clear hk
              go_wp2_with fail
              refine (dk_text H0.out (List.mem_cons_self ..)).mono ?_
              rintro e X101 ⟨rfl, t⟩
              have H101 := Lib.hid t
              clear t
              go_wp2_with fail
              refine (dk_text H101.out (List.mem_cons_self ..)).mono ?_
              rintro e X102 ⟨rfl, t⟩
              have H102 := Lib.hid t
              clear t
              obtain ⟨⟨m0, m1, m2, m3, m4, m5, m6, m7, m8, m9, m10, m11, m12, m13, m14, m15, m16, m17⟩, ml, mf0, mf1, mf2, mf3, mf4, mf5, mf6, mf7, mf8, mf9, mf10, mf11, mf12, mf13, mf14, mf15, mf16, mf17⟩ := Blk.all18 (H102.out.cmd)
              try dsimp only at m0 m1 m2 m3 m4 m5 m6 m7 m8 m9 m10 m11 m12 m13 m14 m15 m16 m17
              go_upto_region 38 with fail
              obtain ⟨UHZ, hU⟩ : ∃ U, U = ((X102.setCell ⟨br, 4, none⟩ (Str (rtext sd 8192).1)).setCell ⟨br, 6, none⟩ (Str (rtext (rtext sd 8192).2 8192).1)) := ⟨_, rfl⟩
              have HZ : Hid (Dk w UHZ [(pp, 111, ptrC p), (rb, 35, rqZ)] p br ((rtext (rtext sd 8192).2 8192).2) (⟨cc, q, tk, kd, (rtext sd 8192).1, [], (rtext (rtext sd 8192).2 8192).1, [], 0, 0, [], [], false, false, 0, [], [], []⟩) none none none 0 0 0) := Lib.hid (H102.out.put0 (by rw [hU]; exact (((Step.refl [br] X102).setCell (.inl (by simp)) _).setCell (.inl (by simp)) _)) (by rw [hU]; have hq := ((H102.out.cmd.set 4 (Str (rtext sd 8192).1)).set 6 (Str (rtext (rtext sd 8192).2 8192).1)); simpa [cmc] using hq) rfl rfl rfl)
              rw [← hU]
              clear hU m0 m1 m2 m3 m4 m5 m6 m7 m8 m9 m10 m11 m12 m13 m14 m15 m16 m17 ml mf0 mf1 mf2 mf3 mf4 mf5 mf6 mf7 mf8 mf9 mf10 mf11 mf12 mf13 mf14 mf15 mf16 mf17
              have GE : Hid (∃ a1 c1 a2 c2 a3 c3, Dk w UHZ [(pp, 111, ptrC p), (rb, 35, rqZ)] p br sf y a1 a2 a3 c1 c2 c3 ∧ LenC y) := by
                have e0 : (y, sf) = ((⟨cc, q, tk, kd, (rtext sd 8192).1, [], (rtext (rtext sd 8192).2 8192).1, [], 0, 0, [], [], false, false, 0, [], [], []⟩ : Cm), ((rtext (rtext sd 8192).2 8192).2 : RS)) := HRQ.out.symm.trans (by have hk := HKN.out; subst hk; rfl)
                obtain ⟨e1, e2⟩ := Prod.mk.inj e0
                rw [e1, e2]
                exact ⟨none, 0, none, 0, none, 0, HZ.out, ⟨by simp, by simp, by simp⟩⟩
              clear HKN
              go_wp2_with fail
              go_meet
              exact GE
          · as_aux_lemma =>
              have HKN := Lib.hid hk
              have k1 : (kd == 1) = false := by simp [hk]
              have k2 : (kd == 2) = true := by simp [hk]
              have k3 : (kd == 3) = false := by simp [hk]
              have k4 : (kd == 4) = false := by simp [hk]
              have k5 : (kd == 5) = false := by simp [hk]
              have k6 : (kd == 6) = false := by simp [hk]
              have k7 : (kd == 7) = false := by simp [hk]
              have k8 : (kd == 8) = false := by simp [hk]
              have k9 : (kd == 9) = false := by simp [hk]
              have k10 : (kd == 10) = false := by simp [hk]
              have k11 : (kd == 11) = false := by simp [hk]
              have k12 : (kd == 12) = false := by simp [hk]
              have k13 : (kd == 13) = false := by simp [hk]
              have k14 : (kd == 14) = false := by simp [hk]
              clear hk
              have pc := (H0.out.blk (List.mem_cons_self ..)).cell 0
              have pl := (H0.out.blk (List.mem_cons_self ..)).lt
              simp only [ptrC, List.getElem?_toArray, List.getElem?_cons_zero] at pc
              go_wp2_with fail
              refine (dk_upto H0.out 8192).mono ?_
              rintro e X201 ⟨rfl, t⟩
              have H201 := Lib.hid t
              clear t pc pl
              have hn0 := upto_nat sd 8192
              have hn1 := uptoQ_most sd 8192 (by omega)
              obtain ⟨N, hN⟩ : ∃ N : Nat, N = (upto sd 8192).1.toNat := ⟨_, rfl⟩
              have hN2 : (upto sd 8192).1 = (N : Int) := by omega
              have hN8 : N ≤ 8192 := by omega
              obtain ⟨R, hR⟩ : ∃ R, R = rdCmps sd := ⟨_, rfl⟩
              have HR := Lib.hid hR
              have HLR : Hid (R.1.length ≤ 8192) := Lib.hid (by rw [hR]; have := cmpsR_len (upto sd 8192).1.toNat [] (upto sd 8192).2; unfold rdCmps; simp at this; omega)
              have HC : Hid (cmpsR N [] (upto sd 8192).2 = R) := Lib.hid (by rw [hR, rdCmps, ← hN])
              rw [hN2]
              clear hN hN2 hR hn0 hn1
              obtain ⟨i0, hi, hz0, hz1, hz2⟩ := info_parts Try.info_cmp
              have HI := Lib.hid (And.intro hi (And.intro hz0 (And.intro hz1 hz2)))
              clear hi hz0 hz1 hz2
              go_upto_block 1 with fail
              go_cut [] (fun wx => Hid (∃ a1 c1, Dk w wx [(pp, 111, ptrC p), (rb, 35, rqZ)] p br R.2 (⟨cc, q, tk, kd, [], [], [], [], 0, 0, [], [], false, false, 0, R.1, [], []⟩ : Cm) a1 none none c1 0 0))
              case first =>
                go_wp2_with fail
                go_loopw [39] (fun i W => ∃ (k : Nat) (l : List Cp) (a : Option Addr) (c : Nat) (st1 : RS), k ≤ N ∧ l.length ≤ k ∧ i = .int .i64 k ∧ Hid (Dk w W [(pp, 111, ptrC p), (rb, 35, rqZ)] p br st1 (⟨cc, q, tk, kd, [], [], [], [], 0, 0, [], [], false, false, 0, l, [], []⟩ : Cm) a none none c 0 0 ∧ cmpsR (N - k) l st1 = R)) (fun i _ => N - (intOf i).toNat)
                case atStart => exact ⟨0, [], none, 0, _, by omega, by simp, rfl, H201.out, HC.out⟩
                case round =>
                  clear HC H201 H0
                  rename World => W
                  obtain ⟨k, l, a, c, st1, hk, hlk, rfl, HW⟩ := hrel
                  by_cases hlt : k < N
                  · have hlt' : (k : Int) < N := by omega
                    have HLK : Hid (l.length ≤ k ∧ k < N) := ⟨hlk, hlt⟩
                    have HX := Lib.hid HW.out.2
                    go_upto_region 12 with fail
                    have HWd : Hid (Dk w W.drew [(pp, 111, ptrC p), (rb, 35, rqZ)] p br st1 (⟨cc, q, tk, kd, [], [], [], [], 0, 0, [], [], false, false, 0, l, [], []⟩ : Cm) a none none c 0 0) := Lib.hid (HW.out.1.quiet ((Step.refl [] W).drew))
                    clear HW
                    refine wp_region_held_drew (S := fun V => Hid (Blk V pp 111 (ptrC p) ∧ br < V.heap.size)) (by kernel_rfl) (Lib.hid ⟨HWd.out.blk (List.mem_cons_self ..), HWd.out.cmd.lt⟩) (fun hHeld => ?_)
                    refine wpAnyH_take (i := 0) (v := ?_) rfl (by kernel_rfl) (by kernel_rfl) (by kernel_rfl) (fun _ _ _ h => h) (Or.inl ⟨by rfl, ?_⟩) hHeld ?_
                    rotate_left
                    · intro w hSw
                      have hSw1 := hSw
                      clear hSw
                      try dsimp only at hSw1
                      go_simp
                      try (with_reducible rfl)
                    try simp only [Act.put, List.setIfInBounds_toArray, List.set_cons_zero, List.set_cons_succ, List.getElem_toArray, List.getElem_cons_zero, List.getElem_cons_succ]
                    refine wpAnyH_take (i := 2) (v := ?_) rfl (by kernel_rfl) (by kernel_rfl) (by kernel_rfl) (fun _ _ _ h => h) (Or.inl ⟨by rfl, ?_⟩) hHeld ?_
                    rotate_left
                    · intro w hSw
                      have hSw1 := hSw
                      clear hSw
                      try dsimp only at hSw1
                      go_simp
                      try (with_reducible rfl)
                    try simp only [Act.put, List.setIfInBounds_toArray, List.set_cons_zero, List.set_cons_succ, List.getElem_toArray, List.getElem_cons_zero, List.getElem_cons_succ]
                    refine wpAnyH_take (i := 4) (v := ?_) rfl (by kernel_rfl) (by kernel_rfl) (by kernel_rfl) (fun _ _ _ h => h) (Or.inl ⟨by rfl, ?_⟩) hHeld ?_
                    rotate_left
                    · intro w hSw
                      have hSw1 := hSw
                      clear hSw
                      have tc := hSw1.out.1.cell 0
                      have tl := hSw1.out.1.lt
                      simp only [ptrC, List.getElem?_toArray, List.getElem?_cons_zero] at tc
                      go_simp
                      try (with_reducible rfl)
                    try simp only [Act.put, List.setIfInBounds_toArray, List.set_cons_zero, List.set_cons_succ, List.getElem_toArray, List.getElem_cons_zero, List.getElem_cons_succ]
                    refine wpAnyH_take (i := 6) (v := ?_) rfl (by kernel_rfl) (by kernel_rfl) (by kernel_rfl) (fun _ _ _ h => h) (Or.inl ⟨by rfl, ?_⟩) hHeld ?_
                    rotate_left
                    · intro w hSw
                      have hSw1 := hSw
                      clear hSw
                      have tc := hSw1.out.1.cell 0
                      have tl := hSw1.out.1.lt
                      simp only [ptrC, List.getElem?_toArray, List.getElem?_cons_zero] at tc
                      go_simp
                      try (with_reducible rfl)
                    try simp only [Act.put, List.setIfInBounds_toArray, List.set_cons_zero, List.set_cons_succ, List.getElem_toArray, List.getElem_cons_zero, List.getElem_cons_succ]
                    refine wpAnyH_take (i := 8) (v := ?_) rfl (by kernel_rfl) (by kernel_rfl) (by kernel_rfl) (fun _ _ _ h => h) (Or.inl ⟨by rfl, ?_⟩) hHeld ?_
                    rotate_left
                    · intro w hSw
                      have hSw1 := hSw
                      clear hSw
                      try dsimp only at hSw1
                      go_simp
                      try (with_reducible rfl)
                    try simp only [Act.put, List.setIfInBounds_toArray, List.set_cons_zero, List.set_cons_succ, List.getElem_toArray, List.getElem_cons_zero, List.getElem_cons_succ]
                    refine wpAnyH_ready (rs := [1, 3]) (by kernel_rfl) (by simp) ?_
                    refine AllReadyH.cons rfl (fun K hK => ?_) (AllReadyH.cons rfl (fun K hK => ?_) (AllReadyH.nil))
                    · skip
                      obtain ⟨⟨m0, m1, m2, m3, m4, m5, m6, m7, m8, m9, m10, m11, m12, m13, m14, m15, m16, m17⟩, ml, -⟩ := Blk.all18 (HWd.out.cmd); try dsimp only at m0 m1 m2 m3 m4 m5 m6 m7 m8 m9 m10 m11 m12 m13 m14 m15 m16 m17; go_simp; go_wp2_with fail; clear m0 m1 m2 m3 m4 m5 m6 m7 m8 m9 m10 m11 m12 m13 m14 m15 m16 m17 ml
                      refine hK.out _ _ (hHeld) (fun hHeld2 => ?_)
                      clear hK K hHeld
                      try simp only [Act.put, List.setIfInBounds_toArray, List.set_cons_zero, List.set_cons_succ, List.getElem_toArray, List.getElem_cons_zero, List.getElem_cons_succ]
                      refine wpAnyH_ready (rs := [3]) (by kernel_rfl) (by simp) ?_
                      refine AllReadyH.cons rfl (fun K hK => ?_) AllReadyH.nil
                      go_simp
                      refine (dk_text HWd.out (List.mem_cons_self ..)).mono ?_; rintro e X202 ⟨rfl, t⟩; have H202 := Lib.hid t; clear t
                      go_wp2_with fail
                      refine hK.out _ _ (Lib.hid ⟨H202.out.blk (List.mem_cons_self ..), H202.out.cmd.lt⟩) (fun hHeld3 => ?_)
                      clear hK K hHeld2
                      try simp only [Act.put, List.setIfInBounds_toArray, List.set_cons_zero, List.set_cons_succ, List.getElem_toArray, List.getElem_cons_zero, List.getElem_cons_succ]
                      refine wpAnyH_ready (rs := [5]) (by kernel_rfl) (by simp) ?_
                      refine AllReadyH.cons rfl (fun K hK => ?_) AllReadyH.nil
                      go_simp
                      refine (dk_num H202.out).mono ?_; rintro e X203 ⟨rfl, t⟩; have H203 := Lib.hid t; clear t
                      go_wp2_with fail
                      refine hK.out _ _ (Lib.hid ⟨H203.out.blk (List.mem_cons_self ..), H203.out.cmd.lt⟩) (fun hHeld4 => ?_)
                      clear hK K hHeld3
                      try simp only [Act.put, List.setIfInBounds_toArray, List.set_cons_zero, List.set_cons_succ, List.getElem_toArray, List.getElem_cons_zero, List.getElem_cons_succ]
                      refine wpAnyH_ready (rs := [7]) (by kernel_rfl) (by simp) ?_
                      refine AllReadyH.cons rfl (fun K hK => ?_) AllReadyH.nil
                      go_simp
                      refine (dk_num H203.out).mono ?_; rintro e X204 ⟨rfl, t⟩; have H204 := Lib.hid t; clear t
                      go_wp2_with fail
                      refine hK.out _ _ (Lib.hid ⟨H204.out.blk (List.mem_cons_self ..), H204.out.cmd.lt⟩) (fun hHeld5 => ?_)
                      clear hK K hHeld4
                      try simp only [Act.put, List.setIfInBounds_toArray, List.set_cons_zero, List.set_cons_succ, List.getElem_toArray, List.getElem_cons_zero, List.getElem_cons_succ]
                      refine wpAnyH_ready (rs := [9]) (by kernel_rfl) (by simp) ?_
                      refine AllReadyH.cons rfl (fun K hK => ?_) AllReadyH.nil
                      go_simp
                      refine (dk_text H204.out (List.mem_cons_self ..)).mono ?_; rintro e X205 ⟨rfl, t⟩; have H205 := Lib.hid t; clear t
                      go_wp2_with fail
                      refine hK.out _ _ (Lib.hid ⟨H205.out.blk (List.mem_cons_self ..), H205.out.cmd.lt⟩) (fun hHeld6 => ?_)
                      clear hK K hHeld5
                      try simp only [Act.put, List.setIfInBounds_toArray, List.set_cons_zero, List.set_cons_succ, List.getElem_toArray, List.getElem_cons_zero, List.getElem_cons_succ]
                      refine wpAnyH_take (i := 10) (v := ?_) rfl (by kernel_rfl) (by kernel_rfl) (by kernel_rfl) (fun _ _ _ h => h) (Or.inl ⟨by rfl, ?_⟩) hHeld6 ?_
                      rotate_left
                      · intro w hSw
                        have hSw1 := hSw
                        clear hSw
                        try dsimp only at hSw1
                        go_simp
                        try (with_reducible rfl)
                      try simp only [Act.put, List.setIfInBounds_toArray, List.set_cons_zero, List.set_cons_succ, List.getElem_toArray, List.getElem_cons_zero, List.getElem_cons_succ]
                      refine wpAnyH_ready (rs := [11]) (by kernel_rfl) (by simp) ?_
                      refine AllReadyH.cons rfl (fun K hK => ?_) AllReadyH.nil
                      go_simp; go_wp2_with fail; refine letterQ (K := K) ?_; intro U hU; obtain ⟨eb, heb⟩ : ∃ eb, eb = X205.heap.size := ⟨_, rfl⟩; have GB : Hid (Dk w U [(pp, 111, ptrC p), (rb, 35, rqZ)] p br (rtext (rnum (rnum (rtext st1 8192).2).2).2 8192).2 (⟨cc, q, tk, kd, [], [], [], [], 0, 0, [], [], false, false, 0, l, [], []⟩ : Cm) a none none c 0 0) := Lib.hid (by rw [hU]; exact H205.out.quiet ((Step.refl [] _).alloc _)); have B3 : Hid (Blk U eb 77 (cpc ⟨(rtext st1 8192).1, (rnum (rtext st1 8192).2).1, (rnum (rnum (rtext st1 8192).2).2).1, (rtext (rnum (rnum (rtext st1 8192).2).2).2 8192).1⟩).toArray) := Lib.hid (by rw [hU, heb]; exact Blk.new _ _ _); rw [← heb]; clear hU heb
                      refine hK.out _ _ (Lib.hid ⟨GB.out.blk (List.mem_cons_self ..), GB.out.cmd.lt⟩) (fun hHeld7 => ?_)
                      clear hK K hHeld6
                      try simp only [Act.put, List.setIfInBounds_toArray, List.set_cons_zero, List.set_cons_succ, List.getElem_toArray, List.getElem_cons_zero, List.getElem_cons_succ]
                      refine wpAnyH_ready (rs := [12]) (by kernel_rfl) (by simp) ?_
                      refine AllReadyH.cons rfl (fun K hK => ?_) AllReadyH.nil
                      have HRW : Hid (Row U 4 a l.length c (cpcs l)) := Lib.hid GB.out.i; refine step_append_row rfl (.tmp 42) (.tmp 52) 26 26 rfl 77 i0 _ 4 48 Try.underlying26 HI.out.1 HI.out.2.1 HI.out.2.2.1 HI.out.2.2.2 rfl rfl HRW.out rfl (Src.rd 26 77 Try.underlying26 (rd_blk' (xs := cpc ⟨(rtext st1 8192).1, (rnum (rtext st1 8192).2).1, (rnum (rnum (rtext st1 8192).2).2).1, (rtext (rnum (rnum (rtext st1 8192).2).2).2 8192).1⟩) B3.out 4 1 rfl) (cpc_one _)) (by unfold maxLen; have := HLK.out; omega) (by omega) (by omega) ?_; intro a9 c9 w9 hr9 st9; have G9 : Hid (Dk w (w9.setCell ⟨br, 15, none⟩ (.slice a9 (l.length + 1) c9)) [(pp, 111, ptrC p), (rb, 35, rqZ)] p br (rtext (rnum (rnum (rtext st1 8192).2).2).2 8192).2 (⟨cc, q, tk, kd, [], [], [], [], 0, 0, [], [], false, false, 0, l ++ [⟨(rtext st1 8192).1, (rnum (rtext st1 8192).2).1, (rnum (rnum (rtext st1 8192).2).2).1, (rtext (rnum (rnum (rtext st1 8192).2).2).2 8192).1⟩], [], []⟩ : Cm) a9 none none c9 0 0) := Lib.hid (GB.out.grow (c := ⟨(rtext st1 8192).1, (rnum (rtext st1 8192).2).1, (rnum (rnum (rtext st1 8192).2).2).1, (rtext (rnum (rnum (rtext st1 8192).2).2).2 8192).1⟩) st9 hr9 rfl); have M9 := Lib.hid (GB.out.mid st9); clear hr9 st9; have zc := M9.out.1.cell 15; have zl := M9.out.1.lt; have zf := M9.out.1.frozen 15; simp only [cmc, List.getElem?_toArray, List.getElem?_cons_zero, List.getElem?_cons_succ] at zc
                      refine hK.out _ _ (Lib.hid ⟨M9.out.2 _ (List.mem_cons_self ..), M9.out.1.lt⟩) (fun hHeld8 => ?_)
                      clear hK K hHeld7
                      try simp only [Act.put, List.setIfInBounds_toArray, List.set_cons_zero, List.set_cons_succ, List.getElem_toArray, List.getElem_cons_zero, List.getElem_cons_succ]
                      refine wpAnyH_take (i := 13) (v := ?_) rfl (by kernel_rfl) (by kernel_rfl) (by kernel_rfl) (fun _ _ _ h => h) (Or.inl ⟨by rfl, ?_⟩) hHeld8 ?_
                      rotate_left
                      · intro w hSw
                        have hSw1 := hSw
                        clear hSw
                        try dsimp only at hSw1
                        go_simp
                        try (with_reducible rfl)
                      try simp only [Act.put, List.setIfInBounds_toArray, List.set_cons_zero, List.set_cons_succ, List.getElem_toArray, List.getElem_cons_zero, List.getElem_cons_succ]
                      refine wpAnyH_ready (rs := [14]) (by kernel_rfl) (by simp) ?_
                      refine AllReadyH.cons rfl (fun K hK => ?_) AllReadyH.nil
                      go_simp
                      skip
                      go_wp2_with fail
                      refine hK.out _ _ (Lib.hid ⟨G9.out.blk (List.mem_cons_self ..), G9.out.cmd.lt⟩) (fun hHeld9 => ?_)
                      clear hK K hHeld8
                      try simp only [Act.put, List.setIfInBounds_toArray, List.set_cons_zero, List.set_cons_succ, List.getElem_toArray, List.getElem_cons_zero, List.getElem_cons_succ]
                      refine wpAnyH_done (by kernel_rfl) ?_ _
                      clear zc zl zf
                      obtain ⟨U9, hU9⟩ : ∃ U9, U9 = w9.setCell ⟨br, 15, none⟩ (.slice a9 (l.length + 1) c9) := ⟨_, rfl⟩
                      rw [← hU9] at G9
                      rw [← hU9]
                      clear hU9
                      have HX2 : Hid ((if (rtext (rnum (rnum (rtext st1 8192).2).2).2 8192).2.s.length = 0 then (l ++ [⟨(rtext st1 8192).1, (rnum (rtext st1 8192).2).1, (rnum (rnum (rtext st1 8192).2).2).1, (rtext (rnum (rnum (rtext st1 8192).2).2).2 8192).1⟩], (rtext (rnum (rnum (rtext st1 8192).2).2).2 8192).2) else cmpsR (N - (k + 1)) (l ++ [⟨(rtext st1 8192).1, (rnum (rtext st1 8192).2).1, (rnum (rnum (rtext st1 8192).2).2).1, (rtext (rnum (rnum (rtext st1 8192).2).2).2 8192).1⟩]) (rtext (rnum (rnum (rtext st1 8192).2).2).2 8192).2) = R) := Lib.hid (by have := HX.out; rw [show N - k = N - (k + 1) + 1 by omega, cmpsR] at this; exact this)
                      have pc := (G9.out.blk (List.mem_cons_self ..)).cell 0
                      have pl := (G9.out.blk (List.mem_cons_self ..)).lt
                      simp only [ptrC, List.getElem?_toArray, List.getElem?_cons_zero] at pc
                      go_wp2_with fail
                      refine (dk_left G9.out).mono ?_
                      rintro e W9 ⟨rfl, rfl⟩
                      clear pc pl
                      by_cases hz : (rtext (rnum (rnum (rtext st1 8192).2).2).2 8192).2.s.length = 0
                      · have hzb : (((rtext (rnum (rnum (rtext st1 8192).2).2).2 8192).2.s.length : Int) == 0) = true := by simp [hz]
                        have GE : Hid (∃ a1 c1, Dk w U9 [(pp, 111, ptrC p), (rb, 35, rqZ)] p br R.2 (⟨cc, q, tk, kd, [], [], [], [], 0, 0, [], [], false, false, 0, R.1, [], []⟩ : Cm) a1 none none c1 0 0) := by
                          have e0 : (l ++ [⟨(rtext st1 8192).1, (rnum (rtext st1 8192).2).1, (rnum (rnum (rtext st1 8192).2).2).1, (rtext (rnum (rnum (rtext st1 8192).2).2).2 8192).1⟩], (rtext (rnum (rnum (rtext st1 8192).2).2).2 8192).2) = R := by have := HX2.out; rwa [if_pos hz] at this
                          rw [← e0]
                          exact ⟨a9, c9, G9.out⟩
                        clear hz
                        go_wp2_with fail
                        go_meet
                        exact GE
                      · have hzb : (((rtext (rnum (rnum (rtext st1 8192).2).2).2 8192).2.s.length : Int) == 0) = false := beq_eq_false_iff_ne.2 (by omega)
                        have HX3 : Hid (cmpsR (N - (k + 1)) (l ++ [⟨(rtext st1 8192).1, (rnum (rtext st1 8192).2).1, (rnum (rnum (rtext st1 8192).2).2).1, (rtext (rnum (rnum (rtext st1 8192).2).2).2 8192).1⟩]) (rtext (rnum (rnum (rtext st1 8192).2).2).2 8192).2 = R) := Lib.hid (by have := HX2.out; rwa [if_neg hz] at this)
                        clear hz
                        go_wp2_with fail
                        go_roundw
                        case rel => exact ⟨k + 1, l ++ [⟨(rtext st1 8192).1, (rnum (rtext st1 8192).2).1, (rnum (rnum (rtext st1 8192).2).2).1, (rtext (rnum (rnum (rtext st1 8192).2).2).2 8192).1⟩], a9, c9, _, by omega, by simp; omega, by go_num, G9.out, HX3.out⟩
                        case measure => simp [intOf]; omega
                    · skip
                      go_simp
                      refine (dk_text HWd.out (List.mem_cons_self ..)).mono ?_; rintro e X206 ⟨rfl, t⟩; have H206 := Lib.hid t; clear t
                      go_wp2_with fail
                      refine hK.out _ _ (Lib.hid ⟨H206.out.blk (List.mem_cons_self ..), H206.out.cmd.lt⟩) (fun hHeld2 => ?_)
                      clear hK K hHeld
                      try simp only [Act.put, List.setIfInBounds_toArray, List.set_cons_zero, List.set_cons_succ, List.getElem_toArray, List.getElem_cons_zero, List.getElem_cons_succ]
                      refine wpAnyH_ready (rs := [1, 5]) (by kernel_rfl) (by simp) ?_
                      refine AllReadyH.cons rfl (fun K hK => ?_) (AllReadyH.cons rfl (fun K hK => ?_) (AllReadyH.nil))
                      · skip
                        obtain ⟨⟨m0, m1, m2, m3, m4, m5, m6, m7, m8, m9, m10, m11, m12, m13, m14, m15, m16, m17⟩, ml, -⟩ := Blk.all18 (H206.out.cmd); try dsimp only at m0 m1 m2 m3 m4 m5 m6 m7 m8 m9 m10 m11 m12 m13 m14 m15 m16 m17; go_simp; go_wp2_with fail; clear m0 m1 m2 m3 m4 m5 m6 m7 m8 m9 m10 m11 m12 m13 m14 m15 m16 m17 ml
                        refine hK.out _ _ (hHeld2) (fun hHeld3 => ?_)
                        clear hK K hHeld2
                        try simp only [Act.put, List.setIfInBounds_toArray, List.set_cons_zero, List.set_cons_succ, List.getElem_toArray, List.getElem_cons_zero, List.getElem_cons_succ]
                        refine wpAnyH_ready (rs := [5]) (by kernel_rfl) (by simp) ?_
                        refine AllReadyH.cons rfl (fun K hK => ?_) AllReadyH.nil
                        go_simp
                        refine (dk_num H206.out).mono ?_; rintro e X207 ⟨rfl, t⟩; have H207 := Lib.hid t; clear t
                        go_wp2_with fail
                        refine hK.out _ _ (Lib.hid ⟨H207.out.blk (List.mem_cons_self ..), H207.out.cmd.lt⟩) (fun hHeld4 => ?_)
                        clear hK K hHeld3
                        try simp only [Act.put, List.setIfInBounds_toArray, List.set_cons_zero, List.set_cons_succ, List.getElem_toArray, List.getElem_cons_zero, List.getElem_cons_succ]
                        refine wpAnyH_ready (rs := [7]) (by kernel_rfl) (by simp) ?_
                        refine AllReadyH.cons rfl (fun K hK => ?_) AllReadyH.nil
                        go_simp
                        refine (dk_num H207.out).mono ?_; rintro e X208 ⟨rfl, t⟩; have H208 := Lib.hid t; clear t
                        go_wp2_with fail
                        refine hK.out _ _ (Lib.hid ⟨H208.out.blk (List.mem_cons_self ..), H208.out.cmd.lt⟩) (fun hHeld5 => ?_)
                        clear hK K hHeld4
                        try simp only [Act.put, List.setIfInBounds_toArray, List.set_cons_zero, List.set_cons_succ, List.getElem_toArray, List.getElem_cons_zero, List.getElem_cons_succ]
                        refine wpAnyH_ready (rs := [9]) (by kernel_rfl) (by simp) ?_
                        refine AllReadyH.cons rfl (fun K hK => ?_) AllReadyH.nil
                        go_simp
                        refine (dk_text H208.out (List.mem_cons_self ..)).mono ?_; rintro e X209 ⟨rfl, t⟩; have H209 := Lib.hid t; clear t
                        go_wp2_with fail
                        refine hK.out _ _ (Lib.hid ⟨H209.out.blk (List.mem_cons_self ..), H209.out.cmd.lt⟩) (fun hHeld6 => ?_)
                        clear hK K hHeld5
                        try simp only [Act.put, List.setIfInBounds_toArray, List.set_cons_zero, List.set_cons_succ, List.getElem_toArray, List.getElem_cons_zero, List.getElem_cons_succ]
                        refine wpAnyH_take (i := 10) (v := ?_) rfl (by kernel_rfl) (by kernel_rfl) (by kernel_rfl) (fun _ _ _ h => h) (Or.inl ⟨by rfl, ?_⟩) hHeld6 ?_
                        rotate_left
                        · intro w hSw
                          have hSw1 := hSw
                          clear hSw
                          try dsimp only at hSw1
                          go_simp
                          try (with_reducible rfl)
                        try simp only [Act.put, List.setIfInBounds_toArray, List.set_cons_zero, List.set_cons_succ, List.getElem_toArray, List.getElem_cons_zero, List.getElem_cons_succ]
                        refine wpAnyH_ready (rs := [11]) (by kernel_rfl) (by simp) ?_
                        refine AllReadyH.cons rfl (fun K hK => ?_) AllReadyH.nil
                        go_simp; go_wp2_with fail; refine letterQ (K := K) ?_; intro U hU; obtain ⟨eb, heb⟩ : ∃ eb, eb = X209.heap.size := ⟨_, rfl⟩; have GB : Hid (Dk w U [(pp, 111, ptrC p), (rb, 35, rqZ)] p br (rtext (rnum (rnum (rtext st1 8192).2).2).2 8192).2 (⟨cc, q, tk, kd, [], [], [], [], 0, 0, [], [], false, false, 0, l, [], []⟩ : Cm) a none none c 0 0) := Lib.hid (by rw [hU]; exact H209.out.quiet ((Step.refl [] _).alloc _)); have B3 : Hid (Blk U eb 77 (cpc ⟨(rtext st1 8192).1, (rnum (rtext st1 8192).2).1, (rnum (rnum (rtext st1 8192).2).2).1, (rtext (rnum (rnum (rtext st1 8192).2).2).2 8192).1⟩).toArray) := Lib.hid (by rw [hU, heb]; exact Blk.new _ _ _); rw [← heb]; clear hU heb
                        refine hK.out _ _ (Lib.hid ⟨GB.out.blk (List.mem_cons_self ..), GB.out.cmd.lt⟩) (fun hHeld7 => ?_)
                        clear hK K hHeld6
                        try simp only [Act.put, List.setIfInBounds_toArray, List.set_cons_zero, List.set_cons_succ, List.getElem_toArray, List.getElem_cons_zero, List.getElem_cons_succ]
                        refine wpAnyH_ready (rs := [12]) (by kernel_rfl) (by simp) ?_
                        refine AllReadyH.cons rfl (fun K hK => ?_) AllReadyH.nil
                        have HRW : Hid (Row U 4 a l.length c (cpcs l)) := Lib.hid GB.out.i; refine step_append_row rfl (.tmp 42) (.tmp 52) 26 26 rfl 77 i0 _ 4 48 Try.underlying26 HI.out.1 HI.out.2.1 HI.out.2.2.1 HI.out.2.2.2 rfl rfl HRW.out rfl (Src.rd 26 77 Try.underlying26 (rd_blk' (xs := cpc ⟨(rtext st1 8192).1, (rnum (rtext st1 8192).2).1, (rnum (rnum (rtext st1 8192).2).2).1, (rtext (rnum (rnum (rtext st1 8192).2).2).2 8192).1⟩) B3.out 4 1 rfl) (cpc_one _)) (by unfold maxLen; have := HLK.out; omega) (by omega) (by omega) ?_; intro a9 c9 w9 hr9 st9; have G9 : Hid (Dk w (w9.setCell ⟨br, 15, none⟩ (.slice a9 (l.length + 1) c9)) [(pp, 111, ptrC p), (rb, 35, rqZ)] p br (rtext (rnum (rnum (rtext st1 8192).2).2).2 8192).2 (⟨cc, q, tk, kd, [], [], [], [], 0, 0, [], [], false, false, 0, l ++ [⟨(rtext st1 8192).1, (rnum (rtext st1 8192).2).1, (rnum (rnum (rtext st1 8192).2).2).1, (rtext (rnum (rnum (rtext st1 8192).2).2).2 8192).1⟩], [], []⟩ : Cm) a9 none none c9 0 0) := Lib.hid (GB.out.grow (c := ⟨(rtext st1 8192).1, (rnum (rtext st1 8192).2).1, (rnum (rnum (rtext st1 8192).2).2).1, (rtext (rnum (rnum (rtext st1 8192).2).2).2 8192).1⟩) st9 hr9 rfl); have M9 := Lib.hid (GB.out.mid st9); clear hr9 st9; have zc := M9.out.1.cell 15; have zl := M9.out.1.lt; have zf := M9.out.1.frozen 15; simp only [cmc, List.getElem?_toArray, List.getElem?_cons_zero, List.getElem?_cons_succ] at zc
                        refine hK.out _ _ (Lib.hid ⟨M9.out.2 _ (List.mem_cons_self ..), M9.out.1.lt⟩) (fun hHeld8 => ?_)
                        clear hK K hHeld7
                        try simp only [Act.put, List.setIfInBounds_toArray, List.set_cons_zero, List.set_cons_succ, List.getElem_toArray, List.getElem_cons_zero, List.getElem_cons_succ]
                        refine wpAnyH_take (i := 13) (v := ?_) rfl (by kernel_rfl) (by kernel_rfl) (by kernel_rfl) (fun _ _ _ h => h) (Or.inl ⟨by rfl, ?_⟩) hHeld8 ?_
                        rotate_left
                        · intro w hSw
                          have hSw1 := hSw
                          clear hSw
                          try dsimp only at hSw1
                          go_simp
                          try (with_reducible rfl)
                        try simp only [Act.put, List.setIfInBounds_toArray, List.set_cons_zero, List.set_cons_succ, List.getElem_toArray, List.getElem_cons_zero, List.getElem_cons_succ]
                        refine wpAnyH_ready (rs := [14]) (by kernel_rfl) (by simp) ?_
                        refine AllReadyH.cons rfl (fun K hK => ?_) AllReadyH.nil
                        go_simp
                        skip
                        go_wp2_with fail
                        refine hK.out _ _ (Lib.hid ⟨G9.out.blk (List.mem_cons_self ..), G9.out.cmd.lt⟩) (fun hHeld9 => ?_)
                        clear hK K hHeld8
                        try simp only [Act.put, List.setIfInBounds_toArray, List.set_cons_zero, List.set_cons_succ, List.getElem_toArray, List.getElem_cons_zero, List.getElem_cons_succ]
                        refine wpAnyH_done (by kernel_rfl) ?_ _
                        clear zc zl zf
                        obtain ⟨U9, hU9⟩ : ∃ U9, U9 = w9.setCell ⟨br, 15, none⟩ (.slice a9 (l.length + 1) c9) := ⟨_, rfl⟩
                        rw [← hU9] at G9
                        rw [← hU9]
                        clear hU9
                        have HX2 : Hid ((if (rtext (rnum (rnum (rtext st1 8192).2).2).2 8192).2.s.length = 0 then (l ++ [⟨(rtext st1 8192).1, (rnum (rtext st1 8192).2).1, (rnum (rnum (rtext st1 8192).2).2).1, (rtext (rnum (rnum (rtext st1 8192).2).2).2 8192).1⟩], (rtext (rnum (rnum (rtext st1 8192).2).2).2 8192).2) else cmpsR (N - (k + 1)) (l ++ [⟨(rtext st1 8192).1, (rnum (rtext st1 8192).2).1, (rnum (rnum (rtext st1 8192).2).2).1, (rtext (rnum (rnum (rtext st1 8192).2).2).2 8192).1⟩]) (rtext (rnum (rnum (rtext st1 8192).2).2).2 8192).2) = R) := Lib.hid (by have := HX.out; rw [show N - k = N - (k + 1) + 1 by omega, cmpsR] at this; exact this)
                        have pc := (G9.out.blk (List.mem_cons_self ..)).cell 0
                        have pl := (G9.out.blk (List.mem_cons_self ..)).lt
                        simp only [ptrC, List.getElem?_toArray, List.getElem?_cons_zero] at pc
                        go_wp2_with fail
                        refine (dk_left G9.out).mono ?_
                        rintro e W9 ⟨rfl, rfl⟩
                        clear pc pl
                        by_cases hz : (rtext (rnum (rnum (rtext st1 8192).2).2).2 8192).2.s.length = 0
                        · have hzb : (((rtext (rnum (rnum (rtext st1 8192).2).2).2 8192).2.s.length : Int) == 0) = true := by simp [hz]
                          have GE : Hid (∃ a1 c1, Dk w U9 [(pp, 111, ptrC p), (rb, 35, rqZ)] p br R.2 (⟨cc, q, tk, kd, [], [], [], [], 0, 0, [], [], false, false, 0, R.1, [], []⟩ : Cm) a1 none none c1 0 0) := by
                            have e0 : (l ++ [⟨(rtext st1 8192).1, (rnum (rtext st1 8192).2).1, (rnum (rnum (rtext st1 8192).2).2).1, (rtext (rnum (rnum (rtext st1 8192).2).2).2 8192).1⟩], (rtext (rnum (rnum (rtext st1 8192).2).2).2 8192).2) = R := by have := HX2.out; rwa [if_pos hz] at this
                            rw [← e0]
                            exact ⟨a9, c9, G9.out⟩
                          clear hz
                          go_wp2_with fail
                          go_meet
                          exact GE
                        · have hzb : (((rtext (rnum (rnum (rtext st1 8192).2).2).2 8192).2.s.length : Int) == 0) = false := beq_eq_false_iff_ne.2 (by omega)
                          have HX3 : Hid (cmpsR (N - (k + 1)) (l ++ [⟨(rtext st1 8192).1, (rnum (rtext st1 8192).2).1, (rnum (rnum (rtext st1 8192).2).2).1, (rtext (rnum (rnum (rtext st1 8192).2).2).2 8192).1⟩]) (rtext (rnum (rnum (rtext st1 8192).2).2).2 8192).2 = R) := Lib.hid (by have := HX2.out; rwa [if_neg hz] at this)
                          clear hz
                          go_wp2_with fail
                          go_roundw
                          case rel => exact ⟨k + 1, l ++ [⟨(rtext st1 8192).1, (rnum (rtext st1 8192).2).1, (rnum (rnum (rtext st1 8192).2).2).1, (rtext (rnum (rnum (rtext st1 8192).2).2).2 8192).1⟩], a9, c9, _, by omega, by simp; omega, by go_num, G9.out, HX3.out⟩
                          case measure => simp [intOf]; omega
                      · skip
                        go_simp
                        refine (dk_num H206.out).mono ?_; rintro e X210 ⟨rfl, t⟩; have H210 := Lib.hid t; clear t
                        go_wp2_with fail
                        refine hK.out _ _ (Lib.hid ⟨H210.out.blk (List.mem_cons_self ..), H210.out.cmd.lt⟩) (fun hHeld3 => ?_)
                        clear hK K hHeld2
                        try simp only [Act.put, List.setIfInBounds_toArray, List.set_cons_zero, List.set_cons_succ, List.getElem_toArray, List.getElem_cons_zero, List.getElem_cons_succ]
                        refine wpAnyH_ready (rs := [1, 7]) (by kernel_rfl) (by simp) ?_
                        refine AllReadyH.cons rfl (fun K hK => ?_) (AllReadyH.cons rfl (fun K hK => ?_) (AllReadyH.nil))
                        · skip
                          obtain ⟨⟨m0, m1, m2, m3, m4, m5, m6, m7, m8, m9, m10, m11, m12, m13, m14, m15, m16, m17⟩, ml, -⟩ := Blk.all18 (H210.out.cmd); try dsimp only at m0 m1 m2 m3 m4 m5 m6 m7 m8 m9 m10 m11 m12 m13 m14 m15 m16 m17; go_simp; go_wp2_with fail; clear m0 m1 m2 m3 m4 m5 m6 m7 m8 m9 m10 m11 m12 m13 m14 m15 m16 m17 ml
                          refine hK.out _ _ (hHeld3) (fun hHeld4 => ?_)
                          clear hK K hHeld3
                          try simp only [Act.put, List.setIfInBounds_toArray, List.set_cons_zero, List.set_cons_succ, List.getElem_toArray, List.getElem_cons_zero, List.getElem_cons_succ]
                          refine wpAnyH_ready (rs := [7]) (by kernel_rfl) (by simp) ?_
                          refine AllReadyH.cons rfl (fun K hK => ?_) AllReadyH.nil
                          go_simp
                          refine (dk_num H210.out).mono ?_; rintro e X211 ⟨rfl, t⟩; have H211 := Lib.hid t; clear t
                          go_wp2_with fail
                          refine hK.out _ _ (Lib.hid ⟨H211.out.blk (List.mem_cons_self ..), H211.out.cmd.lt⟩) (fun hHeld5 => ?_)
                          clear hK K hHeld4
                          try simp only [Act.put, List.setIfInBounds_toArray, List.set_cons_zero, List.set_cons_succ, List.getElem_toArray, List.getElem_cons_zero, List.getElem_cons_succ]
                          refine wpAnyH_ready (rs := [9]) (by kernel_rfl) (by simp) ?_
                          refine AllReadyH.cons rfl (fun K hK => ?_) AllReadyH.nil
                          go_simp
                          refine (dk_text H211.out (List.mem_cons_self ..)).mono ?_; rintro e X212 ⟨rfl, t⟩; have H212 := Lib.hid t; clear t
                          go_wp2_with fail
                          refine hK.out _ _ (Lib.hid ⟨H212.out.blk (List.mem_cons_self ..), H212.out.cmd.lt⟩) (fun hHeld6 => ?_)
                          clear hK K hHeld5
                          try simp only [Act.put, List.setIfInBounds_toArray, List.set_cons_zero, List.set_cons_succ, List.getElem_toArray, List.getElem_cons_zero, List.getElem_cons_succ]
                          refine wpAnyH_take (i := 10) (v := ?_) rfl (by kernel_rfl) (by kernel_rfl) (by kernel_rfl) (fun _ _ _ h => h) (Or.inl ⟨by rfl, ?_⟩) hHeld6 ?_
                          rotate_left
                          · intro w hSw
                            have hSw1 := hSw
                            clear hSw
                            try dsimp only at hSw1
                            go_simp
                            try (with_reducible rfl)
                          try simp only [Act.put, List.setIfInBounds_toArray, List.set_cons_zero, List.set_cons_succ, List.getElem_toArray, List.getElem_cons_zero, List.getElem_cons_succ]
                          refine wpAnyH_ready (rs := [11]) (by kernel_rfl) (by simp) ?_
                          refine AllReadyH.cons rfl (fun K hK => ?_) AllReadyH.nil
                          go_simp; go_wp2_with fail; refine letterQ (K := K) ?_; intro U hU; obtain ⟨eb, heb⟩ : ∃ eb, eb = X212.heap.size := ⟨_, rfl⟩; have GB : Hid (Dk w U [(pp, 111, ptrC p), (rb, 35, rqZ)] p br (rtext (rnum (rnum (rtext st1 8192).2).2).2 8192).2 (⟨cc, q, tk, kd, [], [], [], [], 0, 0, [], [], false, false, 0, l, [], []⟩ : Cm) a none none c 0 0) := Lib.hid (by rw [hU]; exact H212.out.quiet ((Step.refl [] _).alloc _)); have B3 : Hid (Blk U eb 77 (cpc ⟨(rtext st1 8192).1, (rnum (rtext st1 8192).2).1, (rnum (rnum (rtext st1 8192).2).2).1, (rtext (rnum (rnum (rtext st1 8192).2).2).2 8192).1⟩).toArray) := Lib.hid (by rw [hU, heb]; exact Blk.new _ _ _); rw [← heb]; clear hU heb
                          refine hK.out _ _ (Lib.hid ⟨GB.out.blk (List.mem_cons_self ..), GB.out.cmd.lt⟩) (fun hHeld7 => ?_)
                          clear hK K hHeld6
                          try simp only [Act.put, List.setIfInBounds_toArray, List.set_cons_zero, List.set_cons_succ, List.getElem_toArray, List.getElem_cons_zero, List.getElem_cons_succ]
                          refine wpAnyH_ready (rs := [12]) (by kernel_rfl) (by simp) ?_
                          refine AllReadyH.cons rfl (fun K hK => ?_) AllReadyH.nil
                          have HRW : Hid (Row U 4 a l.length c (cpcs l)) := Lib.hid GB.out.i; refine step_append_row rfl (.tmp 42) (.tmp 52) 26 26 rfl 77 i0 _ 4 48 Try.underlying26 HI.out.1 HI.out.2.1 HI.out.2.2.1 HI.out.2.2.2 rfl rfl HRW.out rfl (Src.rd 26 77 Try.underlying26 (rd_blk' (xs := cpc ⟨(rtext st1 8192).1, (rnum (rtext st1 8192).2).1, (rnum (rnum (rtext st1 8192).2).2).1, (rtext (rnum (rnum (rtext st1 8192).2).2).2 8192).1⟩) B3.out 4 1 rfl) (cpc_one _)) (by unfold maxLen; have := HLK.out; omega) (by omega) (by omega) ?_; intro a9 c9 w9 hr9 st9; have G9 : Hid (Dk w (w9.setCell ⟨br, 15, none⟩ (.slice a9 (l.length + 1) c9)) [(pp, 111, ptrC p), (rb, 35, rqZ)] p br (rtext (rnum (rnum (rtext st1 8192).2).2).2 8192).2 (⟨cc, q, tk, kd, [], [], [], [], 0, 0, [], [], false, false, 0, l ++ [⟨(rtext st1 8192).1, (rnum (rtext st1 8192).2).1, (rnum (rnum (rtext st1 8192).2).2).1, (rtext (rnum (rnum (rtext st1 8192).2).2).2 8192).1⟩], [], []⟩ : Cm) a9 none none c9 0 0) := Lib.hid (GB.out.grow (c := ⟨(rtext st1 8192).1, (rnum (rtext st1 8192).2).1, (rnum (rnum (rtext st1 8192).2).2).1, (rtext (rnum (rnum (rtext st1 8192).2).2).2 8192).1⟩) st9 hr9 rfl); have M9 := Lib.hid (GB.out.mid st9); clear hr9 st9; have zc := M9.out.1.cell 15; have zl := M9.out.1.lt; have zf := M9.out.1.frozen 15; simp only [cmc, List.getElem?_toArray, List.getElem?_cons_zero, List.getElem?_cons_succ] at zc
                          refine hK.out _ _ (Lib.hid ⟨M9.out.2 _ (List.mem_cons_self ..), M9.out.1.lt⟩) (fun hHeld8 => ?_)
                          clear hK K hHeld7
                          try simp only [Act.put, List.setIfInBounds_toArray, List.set_cons_zero, List.set_cons_succ, List.getElem_toArray, List.getElem_cons_zero, List.getElem_cons_succ]
                          refine wpAnyH_take (i := 13) (v := ?_) rfl (by kernel_rfl) (by kernel_rfl) (by kernel_rfl) (fun _ _ _ h => h) (Or.inl ⟨by rfl, ?_⟩) hHeld8 ?_
                          rotate_left
                          · intro w hSw
                            have hSw1 := hSw
                            clear hSw
                            try dsimp only at hSw1
                            go_simp
                            try (with_reducible rfl)
                          try simp only [Act.put, List.setIfInBounds_toArray, List.set_cons_zero, List.set_cons_succ, List.getElem_toArray, List.getElem_cons_zero, List.getElem_cons_succ]
                          refine wpAnyH_ready (rs := [14]) (by kernel_rfl) (by simp) ?_
                          refine AllReadyH.cons rfl (fun K hK => ?_) AllReadyH.nil
                          go_simp
                          skip
                          go_wp2_with fail
                          refine hK.out _ _ (Lib.hid ⟨G9.out.blk (List.mem_cons_self ..), G9.out.cmd.lt⟩) (fun hHeld9 => ?_)
                          clear hK K hHeld8
                          try simp only [Act.put, List.setIfInBounds_toArray, List.set_cons_zero, List.set_cons_succ, List.getElem_toArray, List.getElem_cons_zero, List.getElem_cons_succ]
                          refine wpAnyH_done (by kernel_rfl) ?_ _
                          clear zc zl zf
                          obtain ⟨U9, hU9⟩ : ∃ U9, U9 = w9.setCell ⟨br, 15, none⟩ (.slice a9 (l.length + 1) c9) := ⟨_, rfl⟩
                          rw [← hU9] at G9
                          rw [← hU9]
                          clear hU9
                          have HX2 : Hid ((if (rtext (rnum (rnum (rtext st1 8192).2).2).2 8192).2.s.length = 0 then (l ++ [⟨(rtext st1 8192).1, (rnum (rtext st1 8192).2).1, (rnum (rnum (rtext st1 8192).2).2).1, (rtext (rnum (rnum (rtext st1 8192).2).2).2 8192).1⟩], (rtext (rnum (rnum (rtext st1 8192).2).2).2 8192).2) else cmpsR (N - (k + 1)) (l ++ [⟨(rtext st1 8192).1, (rnum (rtext st1 8192).2).1, (rnum (rnum (rtext st1 8192).2).2).1, (rtext (rnum (rnum (rtext st1 8192).2).2).2 8192).1⟩]) (rtext (rnum (rnum (rtext st1 8192).2).2).2 8192).2) = R) := Lib.hid (by have := HX.out; rw [show N - k = N - (k + 1) + 1 by omega, cmpsR] at this; exact this)
                          have pc := (G9.out.blk (List.mem_cons_self ..)).cell 0
                          have pl := (G9.out.blk (List.mem_cons_self ..)).lt
                          simp only [ptrC, List.getElem?_toArray, List.getElem?_cons_zero] at pc
                          go_wp2_with fail
                          refine (dk_left G9.out).mono ?_
                          rintro e W9 ⟨rfl, rfl⟩
                          clear pc pl
                          by_cases hz : (rtext (rnum (rnum (rtext st1 8192).2).2).2 8192).2.s.length = 0
                          · have hzb : (((rtext (rnum (rnum (rtext st1 8192).2).2).2 8192).2.s.length : Int) == 0) = true := by simp [hz]
                            have GE : Hid (∃ a1 c1, Dk w U9 [(pp, 111, ptrC p), (rb, 35, rqZ)] p br R.2 (⟨cc, q, tk, kd, [], [], [], [], 0, 0, [], [], false, false, 0, R.1, [], []⟩ : Cm) a1 none none c1 0 0) := by
                              have e0 : (l ++ [⟨(rtext st1 8192).1, (rnum (rtext st1 8192).2).1, (rnum (rnum (rtext st1 8192).2).2).1, (rtext (rnum (rnum (rtext st1 8192).2).2).2 8192).1⟩], (rtext (rnum (rnum (rtext st1 8192).2).2).2 8192).2) = R := by have := HX2.out; rwa [if_pos hz] at this
                              rw [← e0]
                              exact ⟨a9, c9, G9.out⟩
                            clear hz
                            go_wp2_with fail
                            go_meet
                            exact GE
                          · have hzb : (((rtext (rnum (rnum (rtext st1 8192).2).2).2 8192).2.s.length : Int) == 0) = false := beq_eq_false_iff_ne.2 (by omega)
                            have HX3 : Hid (cmpsR (N - (k + 1)) (l ++ [⟨(rtext st1 8192).1, (rnum (rtext st1 8192).2).1, (rnum (rnum (rtext st1 8192).2).2).1, (rtext (rnum (rnum (rtext st1 8192).2).2).2 8192).1⟩]) (rtext (rnum (rnum (rtext st1 8192).2).2).2 8192).2 = R) := Lib.hid (by have := HX2.out; rwa [if_neg hz] at this)
                            clear hz
                            go_wp2_with fail
                            go_roundw
                            case rel => exact ⟨k + 1, l ++ [⟨(rtext st1 8192).1, (rnum (rtext st1 8192).2).1, (rnum (rnum (rtext st1 8192).2).2).1, (rtext (rnum (rnum (rtext st1 8192).2).2).2 8192).1⟩], a9, c9, _, by omega, by simp; omega, by go_num, G9.out, HX3.out⟩
                            case measure => simp [intOf]; omega
                        · skip
                          go_simp
                          refine (dk_num H210.out).mono ?_; rintro e X213 ⟨rfl, t⟩; have H213 := Lib.hid t; clear t
                          go_wp2_with fail
                          refine hK.out _ _ (Lib.hid ⟨H213.out.blk (List.mem_cons_self ..), H213.out.cmd.lt⟩) (fun hHeld4 => ?_)
                          clear hK K hHeld3
                          try simp only [Act.put, List.setIfInBounds_toArray, List.set_cons_zero, List.set_cons_succ, List.getElem_toArray, List.getElem_cons_zero, List.getElem_cons_succ]
                          refine wpAnyH_ready (rs := [1, 9]) (by kernel_rfl) (by simp) ?_
                          refine AllReadyH.cons rfl (fun K hK => ?_) (AllReadyH.cons rfl (fun K hK => ?_) (AllReadyH.nil))
                          · skip
                            obtain ⟨⟨m0, m1, m2, m3, m4, m5, m6, m7, m8, m9, m10, m11, m12, m13, m14, m15, m16, m17⟩, ml, -⟩ := Blk.all18 (H213.out.cmd); try dsimp only at m0 m1 m2 m3 m4 m5 m6 m7 m8 m9 m10 m11 m12 m13 m14 m15 m16 m17; go_simp; go_wp2_with fail; clear m0 m1 m2 m3 m4 m5 m6 m7 m8 m9 m10 m11 m12 m13 m14 m15 m16 m17 ml
                            refine hK.out _ _ (hHeld4) (fun hHeld5 => ?_)
                            clear hK K hHeld4
                            try simp only [Act.put, List.setIfInBounds_toArray, List.set_cons_zero, List.set_cons_succ, List.getElem_toArray, List.getElem_cons_zero, List.getElem_cons_succ]
                            refine wpAnyH_ready (rs := [9]) (by kernel_rfl) (by simp) ?_
                            refine AllReadyH.cons rfl (fun K hK => ?_) AllReadyH.nil
                            go_simp
                            refine (dk_text H213.out (List.mem_cons_self ..)).mono ?_; rintro e X214 ⟨rfl, t⟩; have H214 := Lib.hid t; clear t
                            go_wp2_with fail
                            refine hK.out _ _ (Lib.hid ⟨H214.out.blk (List.mem_cons_self ..), H214.out.cmd.lt⟩) (fun hHeld6 => ?_)
                            clear hK K hHeld5
                            try simp only [Act.put, List.setIfInBounds_toArray, List.set_cons_zero, List.set_cons_succ, List.getElem_toArray, List.getElem_cons_zero, List.getElem_cons_succ]
                            refine wpAnyH_take (i := 10) (v := ?_) rfl (by kernel_rfl) (by kernel_rfl) (by kernel_rfl) (fun _ _ _ h => h) (Or.inl ⟨by rfl, ?_⟩) hHeld6 ?_
                            rotate_left
                            · intro w hSw
                              have hSw1 := hSw
                              clear hSw
                              try dsimp only at hSw1
                              go_simp
                              try (with_reducible rfl)
                            try simp only [Act.put, List.setIfInBounds_toArray, List.set_cons_zero, List.set_cons_succ, List.getElem_toArray, List.getElem_cons_zero, List.getElem_cons_succ]
                            refine wpAnyH_ready (rs := [11]) (by kernel_rfl) (by simp) ?_
                            refine AllReadyH.cons rfl (fun K hK => ?_) AllReadyH.nil
                            go_simp; go_wp2_with fail; refine letterQ (K := K) ?_; intro U hU; obtain ⟨eb, heb⟩ : ∃ eb, eb = X214.heap.size := ⟨_, rfl⟩; have GB : Hid (Dk w U [(pp, 111, ptrC p), (rb, 35, rqZ)] p br (rtext (rnum (rnum (rtext st1 8192).2).2).2 8192).2 (⟨cc, q, tk, kd, [], [], [], [], 0, 0, [], [], false, false, 0, l, [], []⟩ : Cm) a none none c 0 0) := Lib.hid (by rw [hU]; exact H214.out.quiet ((Step.refl [] _).alloc _)); have B3 : Hid (Blk U eb 77 (cpc ⟨(rtext st1 8192).1, (rnum (rtext st1 8192).2).1, (rnum (rnum (rtext st1 8192).2).2).1, (rtext (rnum (rnum (rtext st1 8192).2).2).2 8192).1⟩).toArray) := Lib.hid (by rw [hU, heb]; exact Blk.new _ _ _); rw [← heb]; clear hU heb
                            refine hK.out _ _ (Lib.hid ⟨GB.out.blk (List.mem_cons_self ..), GB.out.cmd.lt⟩) (fun hHeld7 => ?_)
                            clear hK K hHeld6
                            try simp only [Act.put, List.setIfInBounds_toArray, List.set_cons_zero, List.set_cons_succ, List.getElem_toArray, List.getElem_cons_zero, List.getElem_cons_succ]
                            refine wpAnyH_ready (rs := [12]) (by kernel_rfl) (by simp) ?_
                            refine AllReadyH.cons rfl (fun K hK => ?_) AllReadyH.nil
                            have HRW : Hid (Row U 4 a l.length c (cpcs l)) := Lib.hid GB.out.i; refine step_append_row rfl (.tmp 42) (.tmp 52) 26 26 rfl 77 i0 _ 4 48 Try.underlying26 HI.out.1 HI.out.2.1 HI.out.2.2.1 HI.out.2.2.2 rfl rfl HRW.out rfl (Src.rd 26 77 Try.underlying26 (rd_blk' (xs := cpc ⟨(rtext st1 8192).1, (rnum (rtext st1 8192).2).1, (rnum (rnum (rtext st1 8192).2).2).1, (rtext (rnum (rnum (rtext st1 8192).2).2).2 8192).1⟩) B3.out 4 1 rfl) (cpc_one _)) (by unfold maxLen; have := HLK.out; omega) (by omega) (by omega) ?_; intro a9 c9 w9 hr9 st9; have G9 : Hid (Dk w (w9.setCell ⟨br, 15, none⟩ (.slice a9 (l.length + 1) c9)) [(pp, 111, ptrC p), (rb, 35, rqZ)] p br (rtext (rnum (rnum (rtext st1 8192).2).2).2 8192).2 (⟨cc, q, tk, kd, [], [], [], [], 0, 0, [], [], false, false, 0, l ++ [⟨(rtext st1 8192).1, (rnum (rtext st1 8192).2).1, (rnum (rnum (rtext st1 8192).2).2).1, (rtext (rnum (rnum (rtext st1 8192).2).2).2 8192).1⟩], [], []⟩ : Cm) a9 none none c9 0 0) := Lib.hid (GB.out.grow (c := ⟨(rtext st1 8192).1, (rnum (rtext st1 8192).2).1, (rnum (rnum (rtext st1 8192).2).2).1, (rtext (rnum (rnum (rtext st1 8192).2).2).2 8192).1⟩) st9 hr9 rfl); have M9 := Lib.hid (GB.out.mid st9); clear hr9 st9; have zc := M9.out.1.cell 15; have zl := M9.out.1.lt; have zf := M9.out.1.frozen 15; simp only [cmc, List.getElem?_toArray, List.getElem?_cons_zero, List.getElem?_cons_succ] at zc
                            refine hK.out _ _ (Lib.hid ⟨M9.out.2 _ (List.mem_cons_self ..), M9.out.1.lt⟩) (fun hHeld8 => ?_)
                            clear hK K hHeld7
                            try simp only [Act.put, List.setIfInBounds_toArray, List.set_cons_zero, List.set_cons_succ, List.getElem_toArray, List.getElem_cons_zero, List.getElem_cons_succ]
                            refine wpAnyH_take (i := 13) (v := ?_) rfl (by kernel_rfl) (by kernel_rfl) (by kernel_rfl) (fun _ _ _ h => h) (Or.inl ⟨by rfl, ?_⟩) hHeld8 ?_
                            rotate_left
                            · intro w hSw
                              have hSw1 := hSw
                              clear hSw
                              try dsimp only at hSw1
                              go_simp
                              try (with_reducible rfl)
                            try simp only [Act.put, List.setIfInBounds_toArray, List.set_cons_zero, List.set_cons_succ, List.getElem_toArray, List.getElem_cons_zero, List.getElem_cons_succ]
                            refine wpAnyH_ready (rs := [14]) (by kernel_rfl) (by simp) ?_
                            refine AllReadyH.cons rfl (fun K hK => ?_) AllReadyH.nil
                            go_simp
                            skip
                            go_wp2_with fail
                            refine hK.out _ _ (Lib.hid ⟨G9.out.blk (List.mem_cons_self ..), G9.out.cmd.lt⟩) (fun hHeld9 => ?_)
                            clear hK K hHeld8
                            try simp only [Act.put, List.setIfInBounds_toArray, List.set_cons_zero, List.set_cons_succ, List.getElem_toArray, List.getElem_cons_zero, List.getElem_cons_succ]
                            refine wpAnyH_done (by kernel_rfl) ?_ _
                            clear zc zl zf
                            obtain ⟨U9, hU9⟩ : ∃ U9, U9 = w9.setCell ⟨br, 15, none⟩ (.slice a9 (l.length + 1) c9) := ⟨_, rfl⟩
                            rw [← hU9] at G9
                            rw [← hU9]
                            clear hU9
                            have HX2 : Hid ((if (rtext (rnum (rnum (rtext st1 8192).2).2).2 8192).2.s.length = 0 then (l ++ [⟨(rtext st1 8192).1, (rnum (rtext st1 8192).2).1, (rnum (rnum (rtext st1 8192).2).2).1, (rtext (rnum (rnum (rtext st1 8192).2).2).2 8192).1⟩], (rtext (rnum (rnum (rtext st1 8192).2).2).2 8192).2) else cmpsR (N - (k + 1)) (l ++ [⟨(rtext st1 8192).1, (rnum (rtext st1 8192).2).1, (rnum (rnum (rtext st1 8192).2).2).1, (rtext (rnum (rnum (rtext st1 8192).2).2).2 8192).1⟩]) (rtext (rnum (rnum (rtext st1 8192).2).2).2 8192).2) = R) := Lib.hid (by have := HX.out; rw [show N - k = N - (k + 1) + 1 by omega, cmpsR] at this; exact this)
                            have pc := (G9.out.blk (List.mem_cons_self ..)).cell 0
                            have pl := (G9.out.blk (List.mem_cons_self ..)).lt
                            simp only [ptrC, List.getElem?_toArray, List.getElem?_cons_zero] at pc
                            go_wp2_with fail
                            refine (dk_left G9.out).mono ?_
                            rintro e W9 ⟨rfl, rfl⟩
                            clear pc pl
                            by_cases hz : (rtext (rnum (rnum (rtext st1 8192).2).2).2 8192).2.s.length = 0
                            · have hzb : (((rtext (rnum (rnum (rtext st1 8192).2).2).2 8192).2.s.length : Int) == 0) = true := by simp [hz]
                              have GE : Hid (∃ a1 c1, Dk w U9 [(pp, 111, ptrC p), (rb, 35, rqZ)] p br R.2 (⟨cc, q, tk, kd, [], [], [], [], 0, 0, [], [], false, false, 0, R.1, [], []⟩ : Cm) a1 none none c1 0 0) := by
                                have e0 : (l ++ [⟨(rtext st1 8192).1, (rnum (rtext st1 8192).2).1, (rnum (rnum (rtext st1 8192).2).2).1, (rtext (rnum (rnum (rtext st1 8192).2).2).2 8192).1⟩], (rtext (rnum (rnum (rtext st1 8192).2).2).2 8192).2) = R := by have := HX2.out; rwa [if_pos hz] at this
                                rw [← e0]
                                exact ⟨a9, c9, G9.out⟩
                              clear hz
                              go_wp2_with fail
                              go_meet
                              exact GE
                            · have hzb : (((rtext (rnum (rnum (rtext st1 8192).2).2).2 8192).2.s.length : Int) == 0) = false := beq_eq_false_iff_ne.2 (by omega)
                              have HX3 : Hid (cmpsR (N - (k + 1)) (l ++ [⟨(rtext st1 8192).1, (rnum (rtext st1 8192).2).1, (rnum (rnum (rtext st1 8192).2).2).1, (rtext (rnum (rnum (rtext st1 8192).2).2).2 8192).1⟩]) (rtext (rnum (rnum (rtext st1 8192).2).2).2 8192).2 = R) := Lib.hid (by have := HX2.out; rwa [if_neg hz] at this)
                              clear hz
                              go_wp2_with fail
                              go_roundw
                              case rel => exact ⟨k + 1, l ++ [⟨(rtext st1 8192).1, (rnum (rtext st1 8192).2).1, (rnum (rnum (rtext st1 8192).2).2).1, (rtext (rnum (rnum (rtext st1 8192).2).2).2 8192).1⟩], a9, c9, _, by omega, by simp; omega, by go_num, G9.out, HX3.out⟩
                              case measure => simp [intOf]; omega
                          · skip
                            go_simp
                            refine (dk_text H213.out (List.mem_cons_self ..)).mono ?_; rintro e X215 ⟨rfl, t⟩; have H215 := Lib.hid t; clear t
                            go_wp2_with fail
                            refine hK.out _ _ (Lib.hid ⟨H215.out.blk (List.mem_cons_self ..), H215.out.cmd.lt⟩) (fun hHeld5 => ?_)
                            clear hK K hHeld4
                            try simp only [Act.put, List.setIfInBounds_toArray, List.set_cons_zero, List.set_cons_succ, List.getElem_toArray, List.getElem_cons_zero, List.getElem_cons_succ]
                            refine wpAnyH_take (i := 10) (v := ?_) rfl (by kernel_rfl) (by kernel_rfl) (by kernel_rfl) (fun _ _ _ h => h) (Or.inl ⟨by rfl, ?_⟩) hHeld5 ?_
                            rotate_left
                            · intro w hSw
                              have hSw1 := hSw
                              clear hSw
                              try dsimp only at hSw1
                              go_simp
                              try (with_reducible rfl)
                            try simp only [Act.put, List.setIfInBounds_toArray, List.set_cons_zero, List.set_cons_succ, List.getElem_toArray, List.getElem_cons_zero, List.getElem_cons_succ]
                            refine wpAnyH_ready (rs := [1, 11]) (by kernel_rfl) (by simp) ?_
                            refine AllReadyH.cons rfl (fun K hK => ?_) (AllReadyH.cons rfl (fun K hK => ?_) (AllReadyH.nil))
                            · skip
                              obtain ⟨⟨m0, m1, m2, m3, m4, m5, m6, m7, m8, m9, m10, m11, m12, m13, m14, m15, m16, m17⟩, ml, -⟩ := Blk.all18 (H215.out.cmd); try dsimp only at m0 m1 m2 m3 m4 m5 m6 m7 m8 m9 m10 m11 m12 m13 m14 m15 m16 m17; go_simp; go_wp2_with fail; clear m0 m1 m2 m3 m4 m5 m6 m7 m8 m9 m10 m11 m12 m13 m14 m15 m16 m17 ml
                              refine hK.out _ _ (hHeld5) (fun hHeld6 => ?_)
                              clear hK K hHeld5
                              try simp only [Act.put, List.setIfInBounds_toArray, List.set_cons_zero, List.set_cons_succ, List.getElem_toArray, List.getElem_cons_zero, List.getElem_cons_succ]
                              refine wpAnyH_ready (rs := [11]) (by kernel_rfl) (by simp) ?_
                              refine AllReadyH.cons rfl (fun K hK => ?_) AllReadyH.nil
                              go_simp; go_wp2_with fail; refine letterQ (K := K) ?_; intro U hU; obtain ⟨eb, heb⟩ : ∃ eb, eb = X215.heap.size := ⟨_, rfl⟩; have GB : Hid (Dk w U [(pp, 111, ptrC p), (rb, 35, rqZ)] p br (rtext (rnum (rnum (rtext st1 8192).2).2).2 8192).2 (⟨cc, q, tk, kd, [], [], [], [], 0, 0, [], [], false, false, 0, l, [], []⟩ : Cm) a none none c 0 0) := Lib.hid (by rw [hU]; exact H215.out.quiet ((Step.refl [] _).alloc _)); have B3 : Hid (Blk U eb 77 (cpc ⟨(rtext st1 8192).1, (rnum (rtext st1 8192).2).1, (rnum (rnum (rtext st1 8192).2).2).1, (rtext (rnum (rnum (rtext st1 8192).2).2).2 8192).1⟩).toArray) := Lib.hid (by rw [hU, heb]; exact Blk.new _ _ _); rw [← heb]; clear hU heb
                              refine hK.out _ _ (Lib.hid ⟨GB.out.blk (List.mem_cons_self ..), GB.out.cmd.lt⟩) (fun hHeld7 => ?_)
                              clear hK K hHeld6
                              try simp only [Act.put, List.setIfInBounds_toArray, List.set_cons_zero, List.set_cons_succ, List.getElem_toArray, List.getElem_cons_zero, List.getElem_cons_succ]
                              refine wpAnyH_ready (rs := [12]) (by kernel_rfl) (by simp) ?_
                              refine AllReadyH.cons rfl (fun K hK => ?_) AllReadyH.nil
                              have HRW : Hid (Row U 4 a l.length c (cpcs l)) := Lib.hid GB.out.i; refine step_append_row rfl (.tmp 42) (.tmp 52) 26 26 rfl 77 i0 _ 4 48 Try.underlying26 HI.out.1 HI.out.2.1 HI.out.2.2.1 HI.out.2.2.2 rfl rfl HRW.out rfl (Src.rd 26 77 Try.underlying26 (rd_blk' (xs := cpc ⟨(rtext st1 8192).1, (rnum (rtext st1 8192).2).1, (rnum (rnum (rtext st1 8192).2).2).1, (rtext (rnum (rnum (rtext st1 8192).2).2).2 8192).1⟩) B3.out 4 1 rfl) (cpc_one _)) (by unfold maxLen; have := HLK.out; omega) (by omega) (by omega) ?_; intro a9 c9 w9 hr9 st9; have G9 : Hid (Dk w (w9.setCell ⟨br, 15, none⟩ (.slice a9 (l.length + 1) c9)) [(pp, 111, ptrC p), (rb, 35, rqZ)] p br (rtext (rnum (rnum (rtext st1 8192).2).2).2 8192).2 (⟨cc, q, tk, kd, [], [], [], [], 0, 0, [], [], false, false, 0, l ++ [⟨(rtext st1 8192).1, (rnum (rtext st1 8192).2).1, (rnum (rnum (rtext st1 8192).2).2).1, (rtext (rnum (rnum (rtext st1 8192).2).2).2 8192).1⟩], [], []⟩ : Cm) a9 none none c9 0 0) := Lib.hid (GB.out.grow (c := ⟨(rtext st1 8192).1, (rnum (rtext st1 8192).2).1, (rnum (rnum (rtext st1 8192).2).2).1, (rtext (rnum (rnum (rtext st1 8192).2).2).2 8192).1⟩) st9 hr9 rfl); have M9 := Lib.hid (GB.out.mid st9); clear hr9 st9; have zc := M9.out.1.cell 15; have zl := M9.out.1.lt; have zf := M9.out.1.frozen 15; simp only [cmc, List.getElem?_toArray, List.getElem?_cons_zero, List.getElem?_cons_succ] at zc
                              refine hK.out _ _ (Lib.hid ⟨M9.out.2 _ (List.mem_cons_self ..), M9.out.1.lt⟩) (fun hHeld8 => ?_)
                              clear hK K hHeld7
                              try simp only [Act.put, List.setIfInBounds_toArray, List.set_cons_zero, List.set_cons_succ, List.getElem_toArray, List.getElem_cons_zero, List.getElem_cons_succ]
                              refine wpAnyH_take (i := 13) (v := ?_) rfl (by kernel_rfl) (by kernel_rfl) (by kernel_rfl) (fun _ _ _ h => h) (Or.inl ⟨by rfl, ?_⟩) hHeld8 ?_
                              rotate_left
                              · intro w hSw
                                have hSw1 := hSw
                                clear hSw
                                try dsimp only at hSw1
                                go_simp
                                try (with_reducible rfl)
                              try simp only [Act.put, List.setIfInBounds_toArray, List.set_cons_zero, List.set_cons_succ, List.getElem_toArray, List.getElem_cons_zero, List.getElem_cons_succ]
                              refine wpAnyH_ready (rs := [14]) (by kernel_rfl) (by simp) ?_
                              refine AllReadyH.cons rfl (fun K hK => ?_) AllReadyH.nil
                              go_simp
                              skip
                              go_wp2_with fail
                              refine hK.out _ _ (Lib.hid ⟨G9.out.blk (List.mem_cons_self ..), G9.out.cmd.lt⟩) (fun hHeld9 => ?_)
                              clear hK K hHeld8
                              try simp only [Act.put, List.setIfInBounds_toArray, List.set_cons_zero, List.set_cons_succ, List.getElem_toArray, List.getElem_cons_zero, List.getElem_cons_succ]
                              refine wpAnyH_done (by kernel_rfl) ?_ _
                              clear zc zl zf
                              obtain ⟨U9, hU9⟩ : ∃ U9, U9 = w9.setCell ⟨br, 15, none⟩ (.slice a9 (l.length + 1) c9) := ⟨_, rfl⟩
                              rw [← hU9] at G9
                              rw [← hU9]
                              clear hU9
                              have HX2 : Hid ((if (rtext (rnum (rnum (rtext st1 8192).2).2).2 8192).2.s.length = 0 then (l ++ [⟨(rtext st1 8192).1, (rnum (rtext st1 8192).2).1, (rnum (rnum (rtext st1 8192).2).2).1, (rtext (rnum (rnum (rtext st1 8192).2).2).2 8192).1⟩], (rtext (rnum (rnum (rtext st1 8192).2).2).2 8192).2) else cmpsR (N - (k + 1)) (l ++ [⟨(rtext st1 8192).1, (rnum (rtext st1 8192).2).1, (rnum (rnum (rtext st1 8192).2).2).1, (rtext (rnum (rnum (rtext st1 8192).2).2).2 8192).1⟩]) (rtext (rnum (rnum (rtext st1 8192).2).2).2 8192).2) = R) := Lib.hid (by have := HX.out; rw [show N - k = N - (k + 1) + 1 by omega, cmpsR] at this; exact this)
                              have pc := (G9.out.blk (List.mem_cons_self ..)).cell 0
                              have pl := (G9.out.blk (List.mem_cons_self ..)).lt
                              simp only [ptrC, List.getElem?_toArray, List.getElem?_cons_zero] at pc
                              go_wp2_with fail
                              refine (dk_left G9.out).mono ?_
                              rintro e W9 ⟨rfl, rfl⟩
                              clear pc pl
                              by_cases hz : (rtext (rnum (rnum (rtext st1 8192).2).2).2 8192).2.s.length = 0
                              · have hzb : (((rtext (rnum (rnum (rtext st1 8192).2).2).2 8192).2.s.length : Int) == 0) = true := by simp [hz]
                                have GE : Hid (∃ a1 c1, Dk w U9 [(pp, 111, ptrC p), (rb, 35, rqZ)] p br R.2 (⟨cc, q, tk, kd, [], [], [], [], 0, 0, [], [], false, false, 0, R.1, [], []⟩ : Cm) a1 none none c1 0 0) := by
                                  have e0 : (l ++ [⟨(rtext st1 8192).1, (rnum (rtext st1 8192).2).1, (rnum (rnum (rtext st1 8192).2).2).1, (rtext (rnum (rnum (rtext st1 8192).2).2).2 8192).1⟩], (rtext (rnum (rnum (rtext st1 8192).2).2).2 8192).2) = R := by have := HX2.out; rwa [if_pos hz] at this
                                  rw [← e0]
                                  exact ⟨a9, c9, G9.out⟩
                                clear hz
                                go_wp2_with fail
                                go_meet
                                exact GE
                              · have hzb : (((rtext (rnum (rnum (rtext st1 8192).2).2).2 8192).2.s.length : Int) == 0) = false := beq_eq_false_iff_ne.2 (by omega)
                                have HX3 : Hid (cmpsR (N - (k + 1)) (l ++ [⟨(rtext st1 8192).1, (rnum (rtext st1 8192).2).1, (rnum (rnum (rtext st1 8192).2).2).1, (rtext (rnum (rnum (rtext st1 8192).2).2).2 8192).1⟩]) (rtext (rnum (rnum (rtext st1 8192).2).2).2 8192).2 = R) := Lib.hid (by have := HX2.out; rwa [if_neg hz] at this)
                                clear hz
                                go_wp2_with fail
                                go_roundw
                                case rel => exact ⟨k + 1, l ++ [⟨(rtext st1 8192).1, (rnum (rtext st1 8192).2).1, (rnum (rnum (rtext st1 8192).2).2).1, (rtext (rnum (rnum (rtext st1 8192).2).2).2 8192).1⟩], a9, c9, _, by omega, by simp; omega, by go_num, G9.out, HX3.out⟩
                                case measure => simp [intOf]; omega
                            · skip
                              go_simp; go_wp2_with fail; refine letterQ (K := K) ?_; intro U hU; obtain ⟨eb, heb⟩ : ∃ eb, eb = X215.heap.size := ⟨_, rfl⟩; have GB : Hid (Dk w U [(pp, 111, ptrC p), (rb, 35, rqZ)] p br (rtext (rnum (rnum (rtext st1 8192).2).2).2 8192).2 (⟨cc, q, tk, kd, [], [], [], [], 0, 0, [], [], false, false, 0, l, [], []⟩ : Cm) a none none c 0 0) := Lib.hid (by rw [hU]; exact H215.out.quiet ((Step.refl [] _).alloc _)); have B3 : Hid (Blk U eb 77 (cpc ⟨(rtext st1 8192).1, (rnum (rtext st1 8192).2).1, (rnum (rnum (rtext st1 8192).2).2).1, (rtext (rnum (rnum (rtext st1 8192).2).2).2 8192).1⟩).toArray) := Lib.hid (by rw [hU, heb]; exact Blk.new _ _ _); rw [← heb]; clear hU heb
                              refine hK.out _ _ (Lib.hid ⟨GB.out.blk (List.mem_cons_self ..), GB.out.cmd.lt⟩) (fun hHeld6 => ?_)
                              clear hK K hHeld5
                              try simp only [Act.put, List.setIfInBounds_toArray, List.set_cons_zero, List.set_cons_succ, List.getElem_toArray, List.getElem_cons_zero, List.getElem_cons_succ]
                              refine wpAnyH_ready (rs := [1]) (by kernel_rfl) (by simp) ?_
                              refine AllReadyH.cons rfl (fun K hK => ?_) AllReadyH.nil
                              obtain ⟨⟨m0, m1, m2, m3, m4, m5, m6, m7, m8, m9, m10, m11, m12, m13, m14, m15, m16, m17⟩, ml, -⟩ := Blk.all18 (GB.out.cmd); try dsimp only at m0 m1 m2 m3 m4 m5 m6 m7 m8 m9 m10 m11 m12 m13 m14 m15 m16 m17; go_simp; go_wp2_with fail; clear m0 m1 m2 m3 m4 m5 m6 m7 m8 m9 m10 m11 m12 m13 m14 m15 m16 m17 ml
                              refine hK.out _ _ (hHeld6) (fun hHeld7 => ?_)
                              clear hK K hHeld6
                              try simp only [Act.put, List.setIfInBounds_toArray, List.set_cons_zero, List.set_cons_succ, List.getElem_toArray, List.getElem_cons_zero, List.getElem_cons_succ]
                              refine wpAnyH_ready (rs := [12]) (by kernel_rfl) (by simp) ?_
                              refine AllReadyH.cons rfl (fun K hK => ?_) AllReadyH.nil
                              have HRW : Hid (Row U 4 a l.length c (cpcs l)) := Lib.hid GB.out.i; refine step_append_row rfl (.tmp 42) (.tmp 52) 26 26 rfl 77 i0 _ 4 48 Try.underlying26 HI.out.1 HI.out.2.1 HI.out.2.2.1 HI.out.2.2.2 rfl rfl HRW.out rfl (Src.rd 26 77 Try.underlying26 (rd_blk' (xs := cpc ⟨(rtext st1 8192).1, (rnum (rtext st1 8192).2).1, (rnum (rnum (rtext st1 8192).2).2).1, (rtext (rnum (rnum (rtext st1 8192).2).2).2 8192).1⟩) B3.out 4 1 rfl) (cpc_one _)) (by unfold maxLen; have := HLK.out; omega) (by omega) (by omega) ?_; intro a9 c9 w9 hr9 st9; have G9 : Hid (Dk w (w9.setCell ⟨br, 15, none⟩ (.slice a9 (l.length + 1) c9)) [(pp, 111, ptrC p), (rb, 35, rqZ)] p br (rtext (rnum (rnum (rtext st1 8192).2).2).2 8192).2 (⟨cc, q, tk, kd, [], [], [], [], 0, 0, [], [], false, false, 0, l ++ [⟨(rtext st1 8192).1, (rnum (rtext st1 8192).2).1, (rnum (rnum (rtext st1 8192).2).2).1, (rtext (rnum (rnum (rtext st1 8192).2).2).2 8192).1⟩], [], []⟩ : Cm) a9 none none c9 0 0) := Lib.hid (GB.out.grow (c := ⟨(rtext st1 8192).1, (rnum (rtext st1 8192).2).1, (rnum (rnum (rtext st1 8192).2).2).1, (rtext (rnum (rnum (rtext st1 8192).2).2).2 8192).1⟩) st9 hr9 rfl); have M9 := Lib.hid (GB.out.mid st9); clear hr9 st9; have zc := M9.out.1.cell 15; have zl := M9.out.1.lt; have zf := M9.out.1.frozen 15; simp only [cmc, List.getElem?_toArray, List.getElem?_cons_zero, List.getElem?_cons_succ] at zc
                              refine hK.out _ _ (Lib.hid ⟨M9.out.2 _ (List.mem_cons_self ..), M9.out.1.lt⟩) (fun hHeld8 => ?_)
                              clear hK K hHeld7
                              try simp only [Act.put, List.setIfInBounds_toArray, List.set_cons_zero, List.set_cons_succ, List.getElem_toArray, List.getElem_cons_zero, List.getElem_cons_succ]
                              refine wpAnyH_take (i := 13) (v := ?_) rfl (by kernel_rfl) (by kernel_rfl) (by kernel_rfl) (fun _ _ _ h => h) (Or.inl ⟨by rfl, ?_⟩) hHeld8 ?_
                              rotate_left
                              · intro w hSw
                                have hSw1 := hSw
                                clear hSw
                                try dsimp only at hSw1
                                go_simp
                                try (with_reducible rfl)
                              try simp only [Act.put, List.setIfInBounds_toArray, List.set_cons_zero, List.set_cons_succ, List.getElem_toArray, List.getElem_cons_zero, List.getElem_cons_succ]
                              refine wpAnyH_ready (rs := [14]) (by kernel_rfl) (by simp) ?_
                              refine AllReadyH.cons rfl (fun K hK => ?_) AllReadyH.nil
                              go_simp
                              skip
                              go_wp2_with fail
                              refine hK.out _ _ (Lib.hid ⟨G9.out.blk (List.mem_cons_self ..), G9.out.cmd.lt⟩) (fun hHeld9 => ?_)
                              clear hK K hHeld8
                              try simp only [Act.put, List.setIfInBounds_toArray, List.set_cons_zero, List.set_cons_succ, List.getElem_toArray, List.getElem_cons_zero, List.getElem_cons_succ]
                              refine wpAnyH_done (by kernel_rfl) ?_ _
                              clear zc zl zf
                              obtain ⟨U9, hU9⟩ : ∃ U9, U9 = w9.setCell ⟨br, 15, none⟩ (.slice a9 (l.length + 1) c9) := ⟨_, rfl⟩
                              rw [← hU9] at G9
                              rw [← hU9]
                              clear hU9
                              have HX2 : Hid ((if (rtext (rnum (rnum (rtext st1 8192).2).2).2 8192).2.s.length = 0 then (l ++ [⟨(rtext st1 8192).1, (rnum (rtext st1 8192).2).1, (rnum (rnum (rtext st1 8192).2).2).1, (rtext (rnum (rnum (rtext st1 8192).2).2).2 8192).1⟩], (rtext (rnum (rnum (rtext st1 8192).2).2).2 8192).2) else cmpsR (N - (k + 1)) (l ++ [⟨(rtext st1 8192).1, (rnum (rtext st1 8192).2).1, (rnum (rnum (rtext st1 8192).2).2).1, (rtext (rnum (rnum (rtext st1 8192).2).2).2 8192).1⟩]) (rtext (rnum (rnum (rtext st1 8192).2).2).2 8192).2) = R) := Lib.hid (by have := HX.out; rw [show N - k = N - (k + 1) + 1 by omega, cmpsR] at this; exact this)
                              have pc := (G9.out.blk (List.mem_cons_self ..)).cell 0
                              have pl := (G9.out.blk (List.mem_cons_self ..)).lt
                              simp only [ptrC, List.getElem?_toArray, List.getElem?_cons_zero] at pc
                              go_wp2_with fail
                              refine (dk_left G9.out).mono ?_
                              rintro e W9 ⟨rfl, rfl⟩
                              clear pc pl
                              by_cases hz : (rtext (rnum (rnum (rtext st1 8192).2).2).2 8192).2.s.length = 0
                              · have hzb : (((rtext (rnum (rnum (rtext st1 8192).2).2).2 8192).2.s.length : Int) == 0) = true := by simp [hz]
                                have GE : Hid (∃ a1 c1, Dk w U9 [(pp, 111, ptrC p), (rb, 35, rqZ)] p br R.2 (⟨cc, q, tk, kd, [], [], [], [], 0, 0, [], [], false, false, 0, R.1, [], []⟩ : Cm) a1 none none c1 0 0) := by
                                  have e0 : (l ++ [⟨(rtext st1 8192).1, (rnum (rtext st1 8192).2).1, (rnum (rnum (rtext st1 8192).2).2).1, (rtext (rnum (rnum (rtext st1 8192).2).2).2 8192).1⟩], (rtext (rnum (rnum (rtext st1 8192).2).2).2 8192).2) = R := by have := HX2.out; rwa [if_pos hz] at this
                                  rw [← e0]
                                  exact ⟨a9, c9, G9.out⟩
                                clear hz
                                go_wp2_with fail
                                go_meet
                                exact GE
                              · have hzb : (((rtext (rnum (rnum (rtext st1 8192).2).2).2 8192).2.s.length : Int) == 0) = false := beq_eq_false_iff_ne.2 (by omega)
                                have HX3 : Hid (cmpsR (N - (k + 1)) (l ++ [⟨(rtext st1 8192).1, (rnum (rtext st1 8192).2).1, (rnum (rnum (rtext st1 8192).2).2).1, (rtext (rnum (rnum (rtext st1 8192).2).2).2 8192).1⟩]) (rtext (rnum (rnum (rtext st1 8192).2).2).2 8192).2 = R) := Lib.hid (by have := HX2.out; rwa [if_neg hz] at this)
                                clear hz
                                go_wp2_with fail
                                go_roundw
                                case rel => exact ⟨k + 1, l ++ [⟨(rtext st1 8192).1, (rnum (rtext st1 8192).2).1, (rnum (rnum (rtext st1 8192).2).2).1, (rtext (rnum (rnum (rtext st1 8192).2).2).2 8192).1⟩], a9, c9, _, by omega, by simp; omega, by go_num, G9.out, HX3.out⟩
                                case measure => simp [intOf]; omega
                  · obtain rfl : k = N := by omega
                    have GE : Hid (∃ a1 c1, Dk w W [(pp, 111, ptrC p), (rb, 35, rqZ)] p br R.2 (⟨cc, q, tk, kd, [], [], [], [], 0, 0, [], [], false, false, 0, R.1, [], []⟩ : Cm) a1 none none c1 0 0) := by
                      have e0 : (l, st1) = R := by have := HW.out.2; rwa [Nat.sub_self, cmpsR] at this
                      rw [← e0]
                      exact ⟨a, c, HW.out.1⟩
                    clear HW
                    go_wp2_with fail
                    go_meet
                    exact GE
              case rest =>
                as_aux_lemma =>
                  rename World => V1
                  obtain ⟨a1, c1, hd⟩ := Hid.out hcut
                  have H60 := Lib.hid hd
                  clear hcut hd HC H201
                  have pc := (H60.out.blk (List.mem_cons_self ..)).cell 0
                  have pl := (H60.out.blk (List.mem_cons_self ..)).lt
                  simp only [ptrC, List.getElem?_toArray, List.getElem?_cons_zero] at pc
                  go_wp2_with fail
                  refine (dk_acts H60.out).mono ?_
                  rintro e X61 ⟨b61, e61, rfl, t1, t2, t3⟩
                  have H61 := Lib.hid t1
                  have Q61 := Lib.hid (And.intro t2 t3)
                  clear t1 t2 t3 pc pl
                  obtain ⟨⟨m0, m1, m2, m3, m4, m5, m6, m7, m8, m9, m10, m11, m12, m13, m14, m15, m16, m17⟩, ml, mf0, mf1, mf2, mf3, mf4, mf5, mf6, mf7, mf8, mf9, mf10, mf11, mf12, mf13, mf14, mf15, mf16, mf17⟩ := Blk.all18 (H61.out.cmd)
                  try dsimp only at m0 m1 m2 m3 m4 m5 m6 m7 m8 m9 m10 m11 m12 m13 m14 m15 m16 m17
                  go_upto_region 16 with fail
                  obtain ⟨U61, hU⟩ : ∃ U, U = X61.setCell ⟨br, 16, none⟩ (.slice b61 (rdActs R.2).1.length e61) := ⟨_, rfl⟩
                  have HA61 : Hid (Dk w U61 [(pp, 111, ptrC p), (rb, 35, rqZ)] p br (rdActs R.2).2 (⟨cc, q, tk, kd, [], [], [], [], 0, 0, [], [], false, false, 0, R.1, (rdActs R.2).1, []⟩ : Cm) a1 b61 none c1 e61 0) := Lib.hid (by rw [hU]; exact H61.out.putL ((Step.refl [br] X61).setCell (.inl (by simp)) _) (by have hq := H61.out.cmd.set 16 (.slice b61 (rdActs R.2).1.length e61); simpa [cmc] using hq) rfl (Q61.out.1.step ((Step.refl [br] X61).setCell (.inl (by simp)) _) (fun g hg => by simpa using (Q61.out.2 g hg).2)) (Row.none _ 7).rd Q61.out.2 (by simp [blks]))
                  rw [← hU]
                  clear hU m0 m1 m2 m3 m4 m5 m6 m7 m8 m9 m10 m11 m12 m13 m14 m15 m16 m17 ml mf0 mf1 mf2 mf3 mf4 mf5 mf6 mf7 mf8 mf9 mf10 mf11 mf12 mf13 mf14 mf15 mf16 mf17
                  as_aux_lemma =>
                    have pc := (HA61.out.blk (List.mem_cons_self ..)).cell 0
                    have pl := (HA61.out.blk (List.mem_cons_self ..)).lt
                    simp only [ptrC, List.getElem?_toArray, List.getElem?_cons_zero] at pc
                    go_wp2_with fail
                    refine (dk_acts HA61.out).mono ?_
                    rintro e X62 ⟨b62, e62, rfl, t1, t2, t3⟩
                    have H62 := Lib.hid t1
                    have Q62 := Lib.hid (And.intro t2 t3)
                    clear t1 t2 t3 pc pl
                    obtain ⟨⟨m0, m1, m2, m3, m4, m5, m6, m7, m8, m9, m10, m11, m12, m13, m14, m15, m16, m17⟩, ml, mf0, mf1, mf2, mf3, mf4, mf5, mf6, mf7, mf8, mf9, mf10, mf11, mf12, mf13, mf14, mf15, mf16, mf17⟩ := Blk.all18 (H62.out.cmd)
                    try dsimp only at m0 m1 m2 m3 m4 m5 m6 m7 m8 m9 m10 m11 m12 m13 m14 m15 m16 m17
                    go_upto_region 38 with fail
                    obtain ⟨U62, hU⟩ : ∃ U, U = X62.setCell ⟨br, 17, none⟩ (.slice b62 (rdActs (rdActs R.2).2).1.length e62) := ⟨_, rfl⟩
                    have HA62 : Hid (Dk w U62 [(pp, 111, ptrC p), (rb, 35, rqZ)] p br (rdActs (rdActs R.2).2).2 (⟨cc, q, tk, kd, [], [], [], [], 0, 0, [], [], false, false, 0, R.1, (rdActs R.2).1, (rdActs (rdActs R.2).2).1⟩ : Cm) a1 b61 b62 c1 e61 e62) := Lib.hid (by rw [hU]; exact H62.out.putL ((Step.refl [br] X62).setCell (.inl (by simp)) _) (by have hq := H62.out.cmd.set 17 (.slice b62 (rdActs (rdActs R.2).2).1.length e62); simpa [cmc] using hq) rfl (H62.out.t.step ((Step.refl [br] X62).setCell (.inl (by simp)) _) (fun g hg => by simpa using (H62.out.dt g hg).2)) (Q62.out.1.step ((Step.refl [br] X62).setCell (.inl (by simp)) _) (fun g hg => by simpa using (Q62.out.2 g hg).2)) H62.out.dt Q62.out.2)
                    rw [← hU]
                    clear hU m0 m1 m2 m3 m4 m5 m6 m7 m8 m9 m10 m11 m12 m13 m14 m15 m16 m17 ml mf0 mf1 mf2 mf3 mf4 mf5 mf6 mf7 mf8 mf9 mf10 mf11 mf12 mf13 mf14 mf15 mf16 mf17
                    have HLN : Hid (LenC (⟨cc, q, tk, kd, [], [], [], [], 0, 0, [], [], false, false, 0, R.1, (rdActs R.2).1, (rdActs (rdActs R.2).2).1⟩ : Cm)) := ⟨by have := HLR.out; simp only; omega, by have := actsR_len (upto R.2 8192).1.toNat [] (upto R.2 8192).2; have h1 := uptoQ_most R.2 8192 (by omega); simp only [rdActs]; simp at this; omega, by have := actsR_len (upto (rdActs R.2).2 8192).1.toNat [] (upto (rdActs R.2).2 8192).2; have h1 := uptoQ_most (rdActs R.2).2 8192 (by omega); show (actsR (upto (rdActs R.2).2 8192).1.toNat [] (upto (rdActs R.2).2 8192).2).1.length ≤ 1099511627776; simp at this; omega⟩
                    have GE : Hid (∃ a1 c1 a2 c2 a3 c3, Dk w U62 [(pp, 111, ptrC p), (rb, 35, rqZ)] p br sf y a1 a2 a3 c1 c2 c3 ∧ LenC y) := by
                      have e0 : (y, sf) = (((⟨cc, q, tk, kd, [], [], [], [], 0, 0, [], [], false, false, 0, R.1, (rdActs R.2).1, (rdActs (rdActs R.2).2).1⟩ : Cm) : Cm), ((rdActs (rdActs R.2).2).2 : RS)) := HRQ.out.symm.trans (by have hk := HKN.out; subst hk; rw [HR.out]; rfl)
                      obtain ⟨e1, e2⟩ := Prod.mk.inj e0
                      rw [e1, e2]
                      exact ⟨a1, c1, b61, e61, b62, e62, HA62.out, HLN.out⟩
                    clear HKN
                    go_wp2_with fail
                    go_meet
                    exact GE
          · as_aux_lemma =>
              have HKN := Lib.hid hk
              have k1 : (kd == 1) = false := by simp [hk]
              have k2 : (kd == 2) = false := by simp [hk]
              have k3 : (kd == 3) = true := by simp [hk]
              have k4 : (kd == 4) = false := by simp [hk]
              have k5 : (kd == 5) = false := by simp [hk]
              have k6 : (kd == 6) = false := by simp [hk]
              have k7 : (kd == 7) = false := by simp [hk]
              have k8 : (kd == 8) = false := by simp [hk]
              have k9 : (kd == 9) = false := by simp [hk]
              have k10 : (kd == 10) = false := by simp [hk]
              have k11 : (kd == 11) = false := by simp [hk]
              have k12 : (kd == 12) = false := by simp [hk]
              have k13 : (kd == 13) = false := by simp [hk]
              have k14 : (kd == 14) = false := by simp [hk]
              clear hk
              have pc := (H0.out.blk (List.mem_cons_self ..)).cell 0
              have pl := (H0.out.blk (List.mem_cons_self ..)).lt
              simp only [ptrC, List.getElem?_toArray, List.getElem?_cons_zero] at pc
              go_wp2_with fail
              refine (dk_num H0.out).mono ?_
              rintro e X301 ⟨rfl, t⟩
              have H301 := Lib.hid t
              clear t pc pl
              obtain ⟨⟨m0, m1, m2, m3, m4, m5, m6, m7, m8, m9, m10, m11, m12, m13, m14, m15, m16, m17⟩, ml, mf0, mf1, mf2, mf3, mf4, mf5, mf6, mf7, mf8, mf9, mf10, mf11, mf12, mf13, mf14, mf15, mf16, mf17⟩ := Blk.all18 (H301.out.cmd)
              try dsimp only at m0 m1 m2 m3 m4 m5 m6 m7 m8 m9 m10 m11 m12 m13 m14 m15 m16 m17
              go_upto_region 38 with fail
              obtain ⟨UHZ, hU⟩ : ∃ U, U = (X301.setCell ⟨br, 14, none⟩ (.int .i64 (rnum sd).1)) := ⟨_, rfl⟩
              have HZ : Hid (Dk w UHZ [(pp, 111, ptrC p), (rb, 35, rqZ)] p br ((rnum sd).2) (⟨cc, q, tk, kd, [], [], [], [], 0, 0, [], [], false, false, (rnum sd).1, [], [], []⟩) none none none 0 0 0) := Lib.hid (H301.out.put0 (by rw [hU]; exact ((Step.refl [br] X301).setCell (.inl (by simp)) _)) (by rw [hU]; have hq := (H301.out.cmd.set 14 (.int .i64 (rnum sd).1)); simpa [cmc] using hq) rfl rfl rfl)
              rw [← hU]
              clear hU m0 m1 m2 m3 m4 m5 m6 m7 m8 m9 m10 m11 m12 m13 m14 m15 m16 m17 ml mf0 mf1 mf2 mf3 mf4 mf5 mf6 mf7 mf8 mf9 mf10 mf11 mf12 mf13 mf14 mf15 mf16 mf17
              have GE : Hid (∃ a1 c1 a2 c2 a3 c3, Dk w UHZ [(pp, 111, ptrC p), (rb, 35, rqZ)] p br sf y a1 a2 a3 c1 c2 c3 ∧ LenC y) := by
                have e0 : (y, sf) = ((⟨cc, q, tk, kd, [], [], [], [], 0, 0, [], [], false, false, (rnum sd).1, [], [], []⟩ : Cm), ((rnum sd).2 : RS)) := HRQ.out.symm.trans (by have hk := HKN.out; subst hk; rfl)
                obtain ⟨e1, e2⟩ := Prod.mk.inj e0
                rw [e1, e2]
                exact ⟨none, 0, none, 0, none, 0, HZ.out, ⟨by simp, by simp, by simp⟩⟩
              clear HKN
              go_wp2_with fail
              go_meet
              exact GE
          · as_aux_lemma =>
              have HKN := Lib.hid hk
              have k1 : (kd == 1) = false := by simp [hk]
              have k2 : (kd == 2) = false := by simp [hk]
              have k3 : (kd == 3) = false := by simp [hk]
              have k4 : (kd == 4) = true := by simp [hk]
              have k5 : (kd == 5) = false := by simp [hk]
              have k6 : (kd == 6) = false := by simp [hk]
              have k7 : (kd == 7) = false := by simp [hk]
              have k8 : (kd == 8) = false := by simp [hk]
              have k9 : (kd == 9) = false := by simp [hk]
              have k10 : (kd == 10) = false := by simp [hk]
              have k11 : (kd == 11) = false := by simp [hk]
              have k12 : (kd == 12) = false := by simp [hk]
              have k13 : (kd == 13) = false := by simp [hk]
              have k14 : (kd == 14) = false := by simp [hk]
              clear hk
              go_upto_region 21 with fail
              have H401d := Lib.hid (H0.out.quiet ((Step.refl [] _).drew))
              have HPB : Hid (pp ≠ br) := Lib.hid (H0.out.ne _ (List.mem_cons_self ..))
              refine wp_region_held_drew (S := fun V => Hid (Blk V pp 111 (ptrC p))) (by kernel_rfl) (Lib.hid (H401d.out.blk (List.mem_cons_self ..))) (fun hHeld => ?_)
              refine wpAnyH_take (i := 0) (v := ?_) rfl (by kernel_rfl) (by kernel_rfl) (by kernel_rfl) (fun _ _ _ h => h) (Or.inl ⟨by rfl, ?_⟩) hHeld ?_
              rotate_left
              · intro w hSw
                have hSw1 := hSw
                clear hSw
                try dsimp only at hSw1
                go_simp
                try (with_reducible rfl)
              try simp only [Act.put, List.setIfInBounds_toArray, List.set_cons_zero, List.set_cons_succ, List.getElem_toArray, List.getElem_cons_zero, List.getElem_cons_succ]
              refine wpAnyH_take (i := 2) (v := ?_) rfl (by kernel_rfl) (by kernel_rfl) (by kernel_rfl) (fun _ _ _ h => h) (Or.inl ⟨by rfl, ?_⟩) hHeld ?_
              rotate_left
              · intro w hSw
                have hSw1 := hSw
                clear hSw
                have tc := hSw1.out.cell 0
                have tl := hSw1.out.lt
                simp only [ptrC, List.getElem?_toArray, List.getElem?_cons_zero] at tc
                go_simp
                try (with_reducible rfl)
              try simp only [Act.put, List.setIfInBounds_toArray, List.set_cons_zero, List.set_cons_succ, List.getElem_toArray, List.getElem_cons_zero, List.getElem_cons_succ]
              refine wpAnyH_take (i := 4) (v := ?_) rfl (by kernel_rfl) (by kernel_rfl) (by kernel_rfl) (fun _ _ _ h => h) (Or.inl ⟨by rfl, ?_⟩) hHeld ?_
              rotate_left
              · intro w hSw
                have hSw1 := hSw
                clear hSw
                have tc := hSw1.out.cell 0
                have tl := hSw1.out.lt
                simp only [ptrC, List.getElem?_toArray, List.getElem?_cons_zero] at tc
                go_simp
                try (with_reducible rfl)
              try simp only [Act.put, List.setIfInBounds_toArray, List.set_cons_zero, List.set_cons_succ, List.getElem_toArray, List.getElem_cons_zero, List.getElem_cons_succ]
              refine wpAnyH_ready (rs := [1]) (by kernel_rfl) (by simp) ?_
              refine AllReadyH.cons rfl (fun K hK => ?_) AllReadyH.nil
              go_simp
              refine (dk_text H401d.out (List.mem_cons_self ..)).mono ?_; rintro e X402 ⟨rfl, t⟩; have H402 := Lib.hid t; clear t
              go_wp2_with fail
              refine hK.out _ _ (Lib.hid (H402.out.blk (List.mem_cons_self ..))) (fun hHeld2 => ?_)
              clear hK K hHeld
              try simp only [Act.put, List.setIfInBounds_toArray, List.set_cons_zero, List.set_cons_succ, List.getElem_toArray, List.getElem_cons_zero, List.getElem_cons_succ]
              refine wpAnyH_take (i := 6) (v := ?_) rfl (by kernel_rfl) (by kernel_rfl) (by kernel_rfl) (fun _ _ _ h => h) (Or.inl ⟨by rfl, ?_⟩) hHeld2 ?_
              rotate_left
              · intro w hSw
                have hSw1 := hSw
                clear hSw
                try dsimp only at hSw1
                go_simp
                try (with_reducible rfl)
              try simp only [Act.put, List.setIfInBounds_toArray, List.set_cons_zero, List.set_cons_succ, List.getElem_toArray, List.getElem_cons_zero, List.getElem_cons_succ]
              refine wpAnyH_ready (rs := [3]) (by kernel_rfl) (by simp) ?_
              refine AllReadyH.cons rfl (fun K hK => ?_) AllReadyH.nil
              go_simp
              refine (dk_num H402.out).mono ?_; rintro e X403 ⟨rfl, t⟩; have H403 := Lib.hid t; clear t
              go_wp2_with fail
              refine hK.out _ _ (Lib.hid (H403.out.blk (List.mem_cons_self ..))) (fun hHeld3 => ?_)
              clear hK K hHeld2
              try simp only [Act.put, List.setIfInBounds_toArray, List.set_cons_zero, List.set_cons_succ, List.getElem_toArray, List.getElem_cons_zero, List.getElem_cons_succ]
              refine wpAnyH_ready (rs := [5]) (by kernel_rfl) (by simp) ?_
              refine AllReadyH.cons rfl (fun K hK => ?_) AllReadyH.nil
              go_simp
              refine (dk_num H403.out).mono ?_; rintro e X404 ⟨rfl, t⟩; have H404 := Lib.hid t; clear t; obtain ⟨⟨m0, m1, m2, m3, m4, m5, m6, m7, m8, m9, m10, m11, m12, m13, m14, m15, m16, m17⟩, ml, mf0, mf1, mf2, mf3, mf4, mf5, mf6, mf7, mf8, mf9, mf10, mf11, mf12, mf13, mf14, mf15, mf16, mf17⟩ := Blk.all18 (H404.out.cmd); try dsimp only at m0 m1 m2 m3 m4 m5 m6 m7 m8 m9 m10 m11 m12 m13 m14 m15 m16 m17
              go_wp2_with fail
              refine hK.out _ _ (Lib.hid (H404.out.blk (List.mem_cons_self ..))) (fun hHeld4 => ?_)
              clear hK K hHeld3
              try simp only [Act.put, List.setIfInBounds_toArray, List.set_cons_zero, List.set_cons_succ, List.getElem_toArray, List.getElem_cons_zero, List.getElem_cons_succ]
              refine wpAnyH_ready (rs := [7]) (by kernel_rfl) (by simp) ?_
              refine AllReadyH.cons rfl (fun K hK => ?_) AllReadyH.nil
              go_simp
              skip
              go_wp2_with fail
              refine hK.out _ _ (Lib.hid (hHeld4.out.far HPB.out _)) (fun hHeld5 => ?_)
              clear hK K hHeld4
              try simp only [Act.put, List.setIfInBounds_toArray, List.set_cons_zero, List.set_cons_succ, List.getElem_toArray, List.getElem_cons_zero, List.getElem_cons_succ]
              refine wpAnyH_take (i := 8) (v := ?_) rfl (by kernel_rfl) (by kernel_rfl) (by kernel_rfl) (fun _ _ _ h => h) (Or.inl ⟨by rfl, ?_⟩) hHeld5 ?_
              rotate_left
              · intro w hSw
                have hSw1 := hSw
                clear hSw
                try dsimp only at hSw1
                go_simp
                try (with_reducible rfl)
              try simp only [Act.put, List.setIfInBounds_toArray, List.set_cons_zero, List.set_cons_succ, List.getElem_toArray, List.getElem_cons_zero, List.getElem_cons_succ]
              refine wpAnyH_ready (rs := [9]) (by kernel_rfl) (by simp) ?_
              refine AllReadyH.cons rfl (fun K hK => ?_) AllReadyH.nil
              go_simp
              skip
              go_wp2_with fail
              refine hK.out _ _ (Lib.hid (hHeld5.out.far HPB.out _)) (fun hHeld6 => ?_)
              clear hK K hHeld5
              try simp only [Act.put, List.setIfInBounds_toArray, List.set_cons_zero, List.set_cons_succ, List.getElem_toArray, List.getElem_cons_zero, List.getElem_cons_succ]
              refine wpAnyH_take (i := 10) (v := ?_) rfl (by kernel_rfl) (by kernel_rfl) (by kernel_rfl) (fun _ _ _ h => h) (Or.inl ⟨by rfl, ?_⟩) hHeld6 ?_
              rotate_left
              · intro w hSw
                have hSw1 := hSw
                clear hSw
                try dsimp only at hSw1
                go_simp
                try (with_reducible rfl)
              try simp only [Act.put, List.setIfInBounds_toArray, List.set_cons_zero, List.set_cons_succ, List.getElem_toArray, List.getElem_cons_zero, List.getElem_cons_succ]
              refine wpAnyH_ready (rs := [11]) (by kernel_rfl) (by simp) ?_
              refine AllReadyH.cons rfl (fun K hK => ?_) AllReadyH.nil
              go_simp
              skip
              go_wp2_with fail
              refine hK.out _ _ (Lib.hid (hHeld6.out.far HPB.out _)) (fun hHeld7 => ?_)
              clear hK K hHeld6
              try simp only [Act.put, List.setIfInBounds_toArray, List.set_cons_zero, List.set_cons_succ, List.getElem_toArray, List.getElem_cons_zero, List.getElem_cons_succ]
              refine wpAnyH_done (by kernel_rfl) ?_ _
              go_upto_region 38 with fail
              obtain ⟨UHZ, hU⟩ : ∃ U, U = (((X404.setCell ⟨br, 4, none⟩ (Str (rtext sd 8192).1)).setCell ⟨br, 8, none⟩ (.int .i64 (rnum (rtext sd 8192).2).1)).setCell ⟨br, 9, none⟩ (.int .i64 (rnum (rnum (rtext sd 8192).2).2).1)) := ⟨_, rfl⟩
              have HZ : Hid (Dk w UHZ [(pp, 111, ptrC p), (rb, 35, rqZ)] p br ((rnum (rnum (rtext sd 8192).2).2).2) (⟨cc, q, tk, kd, (rtext sd 8192).1, [], [], [], (rnum (rtext sd 8192).2).1, (rnum (rnum (rtext sd 8192).2).2).1, [], [], false, false, 0, [], [], []⟩) none none none 0 0 0) := Lib.hid (H404.out.put0 (by rw [hU]; exact ((((Step.refl [br] X404).setCell (.inl (by simp)) _).setCell (.inl (by simp)) _).setCell (.inl (by simp)) _)) (by rw [hU]; have hq := (((H404.out.cmd.set 4 (Str (rtext sd 8192).1)).set 8 (.int .i64 (rnum (rtext sd 8192).2).1)).set 9 (.int .i64 (rnum (rnum (rtext sd 8192).2).2).1)); simpa [cmc] using hq) rfl rfl rfl)
              rw [← hU]
              clear hU m0 m1 m2 m3 m4 m5 m6 m7 m8 m9 m10 m11 m12 m13 m14 m15 m16 m17 ml mf0 mf1 mf2 mf3 mf4 mf5 mf6 mf7 mf8 mf9 mf10 mf11 mf12 mf13 mf14 mf15 mf16 mf17
              have GE : Hid (∃ a1 c1 a2 c2 a3 c3, Dk w UHZ [(pp, 111, ptrC p), (rb, 35, rqZ)] p br sf y a1 a2 a3 c1 c2 c3 ∧ LenC y) := by
                have e0 : (y, sf) = ((⟨cc, q, tk, kd, (rtext sd 8192).1, [], [], [], (rnum (rtext sd 8192).2).1, (rnum (rnum (rtext sd 8192).2).2).1, [], [], false, false, 0, [], [], []⟩ : Cm), ((rnum (rnum (rtext sd 8192).2).2).2 : RS)) := HRQ.out.symm.trans (by have hk := HKN.out; subst hk; rfl)
                obtain ⟨e1, e2⟩ := Prod.mk.inj e0
                rw [e1, e2]
                exact ⟨none, 0, none, 0, none, 0, HZ.out, ⟨by simp, by simp, by simp⟩⟩
              clear HKN
              go_wp2_with fail
              go_meet
              exact GE
          · as_aux_lemma =>
              have HKN := Lib.hid hk
              have k1 : (kd == 1) = false := by simp [hk]
              have k2 : (kd == 2) = false := by simp [hk]
              have k3 : (kd == 3) = false := by simp [hk]
              have k4 : (kd == 4) = false := by simp [hk]
              have k5 : (kd == 5) = true := by simp [hk]
              have k6 : (kd == 6) = false := by simp [hk]
              have k7 : (kd == 7) = false := by simp [hk]
              have k8 : (kd == 8) = false := by simp [hk]
              have k9 : (kd == 9) = false := by simp [hk]
              have k10 : (kd == 10) = false := by simp [hk]
              have k11 : (kd == 11) = false := by simp [hk]
              have k12 : (kd == 12) = false := by simp [hk]
              have k13 : (kd == 13) = false := by simp [hk]
              have k14 : (kd == 14) = false := by simp [hk]
              clear hk
              go_upto_region 21 with fail
              have H501d := Lib.hid (H0.out.quiet ((Step.refl [] _).drew))
              have HPB : Hid (pp ≠ br) := Lib.hid (H0.out.ne _ (List.mem_cons_self ..))
              refine wp_region_held_drew (S := fun V => Hid (Blk V pp 111 (ptrC p))) (by kernel_rfl) (Lib.hid (H501d.out.blk (List.mem_cons_self ..))) (fun hHeld => ?_)
              refine wpAnyH_take (i := 0) (v := ?_) rfl (by kernel_rfl) (by kernel_rfl) (by kernel_rfl) (fun _ _ _ h => h) (Or.inl ⟨by rfl, ?_⟩) hHeld ?_
              rotate_left
              · intro w hSw
                have hSw1 := hSw
                clear hSw
                try dsimp only at hSw1
                go_simp
                try (with_reducible rfl)
              try simp only [Act.put, List.setIfInBounds_toArray, List.set_cons_zero, List.set_cons_succ, List.getElem_toArray, List.getElem_cons_zero, List.getElem_cons_succ]
              refine wpAnyH_take (i := 2) (v := ?_) rfl (by kernel_rfl) (by kernel_rfl) (by kernel_rfl) (fun _ _ _ h => h) (Or.inl ⟨by rfl, ?_⟩) hHeld ?_
              rotate_left
              · intro w hSw
                have hSw1 := hSw
                clear hSw
                have tc := hSw1.out.cell 0
                have tl := hSw1.out.lt
                simp only [ptrC, List.getElem?_toArray, List.getElem?_cons_zero] at tc
                go_simp
                try (with_reducible rfl)
              try simp only [Act.put, List.setIfInBounds_toArray, List.set_cons_zero, List.set_cons_succ, List.getElem_toArray, List.getElem_cons_zero, List.getElem_cons_succ]
              refine wpAnyH_take (i := 4) (v := ?_) rfl (by kernel_rfl) (by kernel_rfl) (by kernel_rfl) (fun _ _ _ h => h) (Or.inl ⟨by rfl, ?_⟩) hHeld ?_
              rotate_left
              · intro w hSw
                have hSw1 := hSw
                clear hSw
                have tc := hSw1.out.cell 0
                have tl := hSw1.out.lt
                simp only [ptrC, List.getElem?_toArray, List.getElem?_cons_zero] at tc
                go_simp
                try (with_reducible rfl)
              try simp only [Act.put, List.setIfInBounds_toArray, List.set_cons_zero, List.set_cons_succ, List.getElem_toArray, List.getElem_cons_zero, List.getElem_cons_succ]
              refine wpAnyH_ready (rs := [1]) (by kernel_rfl) (by simp) ?_
              refine AllReadyH.cons rfl (fun K hK => ?_) AllReadyH.nil
              go_simp
              refine (dk_text H501d.out (List.mem_cons_self ..)).mono ?_; rintro e X502 ⟨rfl, t⟩; have H502 := Lib.hid t; clear t
              go_wp2_with fail
              refine hK.out _ _ (Lib.hid (H502.out.blk (List.mem_cons_self ..))) (fun hHeld2 => ?_)
              clear hK K hHeld
              try simp only [Act.put, List.setIfInBounds_toArray, List.set_cons_zero, List.set_cons_succ, List.getElem_toArray, List.getElem_cons_zero, List.getElem_cons_succ]
              refine wpAnyH_take (i := 6) (v := ?_) rfl (by kernel_rfl) (by kernel_rfl) (by kernel_rfl) (fun _ _ _ h => h) (Or.inl ⟨by rfl, ?_⟩) hHeld2 ?_
              rotate_left
              · intro w hSw
                have hSw1 := hSw
                clear hSw
                try dsimp only at hSw1
                go_simp
                try (with_reducible rfl)
              try simp only [Act.put, List.setIfInBounds_toArray, List.set_cons_zero, List.set_cons_succ, List.getElem_toArray, List.getElem_cons_zero, List.getElem_cons_succ]
              refine wpAnyH_ready (rs := [3]) (by kernel_rfl) (by simp) ?_
              refine AllReadyH.cons rfl (fun K hK => ?_) AllReadyH.nil
              go_simp
              refine (dk_num H502.out).mono ?_; rintro e X503 ⟨rfl, t⟩; have H503 := Lib.hid t; clear t
              go_wp2_with fail
              refine hK.out _ _ (Lib.hid (H503.out.blk (List.mem_cons_self ..))) (fun hHeld3 => ?_)
              clear hK K hHeld2
              try simp only [Act.put, List.setIfInBounds_toArray, List.set_cons_zero, List.set_cons_succ, List.getElem_toArray, List.getElem_cons_zero, List.getElem_cons_succ]
              refine wpAnyH_ready (rs := [5]) (by kernel_rfl) (by simp) ?_
              refine AllReadyH.cons rfl (fun K hK => ?_) AllReadyH.nil
              go_simp
              refine (dk_num H503.out).mono ?_; rintro e X504 ⟨rfl, t⟩; have H504 := Lib.hid t; clear t; obtain ⟨⟨m0, m1, m2, m3, m4, m5, m6, m7, m8, m9, m10, m11, m12, m13, m14, m15, m16, m17⟩, ml, mf0, mf1, mf2, mf3, mf4, mf5, mf6, mf7, mf8, mf9, mf10, mf11, mf12, mf13, mf14, mf15, mf16, mf17⟩ := Blk.all18 (H504.out.cmd); try dsimp only at m0 m1 m2 m3 m4 m5 m6 m7 m8 m9 m10 m11 m12 m13 m14 m15 m16 m17
              go_wp2_with fail
              refine hK.out _ _ (Lib.hid (H504.out.blk (List.mem_cons_self ..))) (fun hHeld4 => ?_)
              clear hK K hHeld3
              try simp only [Act.put, List.setIfInBounds_toArray, List.set_cons_zero, List.set_cons_succ, List.getElem_toArray, List.getElem_cons_zero, List.getElem_cons_succ]
              refine wpAnyH_ready (rs := [7]) (by kernel_rfl) (by simp) ?_
              refine AllReadyH.cons rfl (fun K hK => ?_) AllReadyH.nil
              go_simp
              skip
              go_wp2_with fail
              refine hK.out _ _ (Lib.hid (hHeld4.out.far HPB.out _)) (fun hHeld5 => ?_)
              clear hK K hHeld4
              try simp only [Act.put, List.setIfInBounds_toArray, List.set_cons_zero, List.set_cons_succ, List.getElem_toArray, List.getElem_cons_zero, List.getElem_cons_succ]
              refine wpAnyH_take (i := 8) (v := ?_) rfl (by kernel_rfl) (by kernel_rfl) (by kernel_rfl) (fun _ _ _ h => h) (Or.inl ⟨by rfl, ?_⟩) hHeld5 ?_
              rotate_left
              · intro w hSw
                have hSw1 := hSw
                clear hSw
                try dsimp only at hSw1
                go_simp
                try (with_reducible rfl)
              try simp only [Act.put, List.setIfInBounds_toArray, List.set_cons_zero, List.set_cons_succ, List.getElem_toArray, List.getElem_cons_zero, List.getElem_cons_succ]
              refine wpAnyH_ready (rs := [9]) (by kernel_rfl) (by simp) ?_
              refine AllReadyH.cons rfl (fun K hK => ?_) AllReadyH.nil
              go_simp
              skip
              go_wp2_with fail
              refine hK.out _ _ (Lib.hid (hHeld5.out.far HPB.out _)) (fun hHeld6 => ?_)
              clear hK K hHeld5
              try simp only [Act.put, List.setIfInBounds_toArray, List.set_cons_zero, List.set_cons_succ, List.getElem_toArray, List.getElem_cons_zero, List.getElem_cons_succ]
              refine wpAnyH_take (i := 10) (v := ?_) rfl (by kernel_rfl) (by kernel_rfl) (by kernel_rfl) (fun _ _ _ h => h) (Or.inl ⟨by rfl, ?_⟩) hHeld6 ?_
              rotate_left
              · intro w hSw
                have hSw1 := hSw
                clear hSw
                try dsimp only at hSw1
                go_simp
                try (with_reducible rfl)
              try simp only [Act.put, List.setIfInBounds_toArray, List.set_cons_zero, List.set_cons_succ, List.getElem_toArray, List.getElem_cons_zero, List.getElem_cons_succ]
              refine wpAnyH_ready (rs := [11]) (by kernel_rfl) (by simp) ?_
              refine AllReadyH.cons rfl (fun K hK => ?_) AllReadyH.nil
              go_simp
              skip
              go_wp2_with fail
              refine hK.out _ _ (Lib.hid (hHeld6.out.far HPB.out _)) (fun hHeld7 => ?_)
              clear hK K hHeld6
              try simp only [Act.put, List.setIfInBounds_toArray, List.set_cons_zero, List.set_cons_succ, List.getElem_toArray, List.getElem_cons_zero, List.getElem_cons_succ]
              refine wpAnyH_done (by kernel_rfl) ?_ _
              go_upto_region 38 with fail
              obtain ⟨UHZ, hU⟩ : ∃ U, U = (((X504.setCell ⟨br, 4, none⟩ (Str (rtext sd 8192).1)).setCell ⟨br, 8, none⟩ (.int .i64 (rnum (rtext sd 8192).2).1)).setCell ⟨br, 9, none⟩ (.int .i64 (rnum (rnum (rtext sd 8192).2).2).1)) := ⟨_, rfl⟩
              have HZ : Hid (Dk w UHZ [(pp, 111, ptrC p), (rb, 35, rqZ)] p br ((rnum (rnum (rtext sd 8192).2).2).2) (⟨cc, q, tk, kd, (rtext sd 8192).1, [], [], [], (rnum (rtext sd 8192).2).1, (rnum (rnum (rtext sd 8192).2).2).1, [], [], false, false, 0, [], [], []⟩) none none none 0 0 0) := Lib.hid (H504.out.put0 (by rw [hU]; exact ((((Step.refl [br] X504).setCell (.inl (by simp)) _).setCell (.inl (by simp)) _).setCell (.inl (by simp)) _)) (by rw [hU]; have hq := (((H504.out.cmd.set 4 (Str (rtext sd 8192).1)).set 8 (.int .i64 (rnum (rtext sd 8192).2).1)).set 9 (.int .i64 (rnum (rnum (rtext sd 8192).2).2).1)); simpa [cmc] using hq) rfl rfl rfl)
              rw [← hU]
              clear hU m0 m1 m2 m3 m4 m5 m6 m7 m8 m9 m10 m11 m12 m13 m14 m15 m16 m17 ml mf0 mf1 mf2 mf3 mf4 mf5 mf6 mf7 mf8 mf9 mf10 mf11 mf12 mf13 mf14 mf15 mf16 mf17
              have GE : Hid (∃ a1 c1 a2 c2 a3 c3, Dk w UHZ [(pp, 111, ptrC p), (rb, 35, rqZ)] p br sf y a1 a2 a3 c1 c2 c3 ∧ LenC y) := by
                have e0 : (y, sf) = ((⟨cc, q, tk, kd, (rtext sd 8192).1, [], [], [], (rnum (rtext sd 8192).2).1, (rnum (rnum (rtext sd 8192).2).2).1, [], [], false, false, 0, [], [], []⟩ : Cm), ((rnum (rnum (rtext sd 8192).2).2).2 : RS)) := HRQ.out.symm.trans (by have hk := HKN.out; subst hk; rfl)
                obtain ⟨e1, e2⟩ := Prod.mk.inj e0
                rw [e1, e2]
                exact ⟨none, 0, none, 0, none, 0, HZ.out, ⟨by simp, by simp, by simp⟩⟩
              clear HKN
              go_wp2_with fail
              go_meet
              exact GE
          · as_aux_lemma =>
              have HKN := Lib.hid hk
              have k1 : (kd == 1) = false := by simp [hk]
              have k2 : (kd == 2) = false := by simp [hk]
              have k3 : (kd == 3) = false := by simp [hk]
              have k4 : (kd == 4) = false := by simp [hk]
              have k5 : (kd == 5) = false := by simp [hk]
              have k6 : (kd == 6) = true := by simp [hk]
              have k7 : (kd == 7) = false := by simp [hk]
              have k8 : (kd == 8) = false := by simp [hk]
              have k9 : (kd == 9) = false := by simp [hk]
              have k10 : (kd == 10) = false := by simp [hk]
              have k11 : (kd == 11) = false := by simp [hk]
              have k12 : (kd == 12) = false := by simp [hk]
              have k13 : (kd == 13) = false := by simp [hk]
              have k14 : (kd == 14) = false := by simp [hk]
              clear hk
              go_wp2_with fail
              refine (dk_text H0.out (List.mem_cons_self ..)).mono ?_
              rintro e X601 ⟨rfl, t⟩
              have H601 := Lib.hid t
              clear t
              go_wp2_with fail
              refine (dk_text H601.out (List.mem_cons_self ..)).mono ?_
              rintro e X602 ⟨rfl, t⟩
              have H602 := Lib.hid t
              clear t
              go_wp2_with fail
              refine (dk_text H602.out (List.mem_cons_self ..)).mono ?_
              rintro e X603 ⟨rfl, t⟩
              have H603 := Lib.hid t
              clear t
              go_wp2_with fail
              refine (dk_text H603.out (List.mem_cons_self ..)).mono ?_
              rintro e X604 ⟨rfl, t⟩
              have H604 := Lib.hid t
              clear t
              obtain ⟨⟨m0, m1, m2, m3, m4, m5, m6, m7, m8, m9, m10, m11, m12, m13, m14, m15, m16, m17⟩, ml, mf0, mf1, mf2, mf3, mf4, mf5, mf6, mf7, mf8, mf9, mf10, mf11, mf12, mf13, mf14, mf15, mf16, mf17⟩ := Blk.all18 (H604.out.cmd)
              try dsimp only at m0 m1 m2 m3 m4 m5 m6 m7 m8 m9 m10 m11 m12 m13 m14 m15 m16 m17
              go_upto_region 38 with fail
              obtain ⟨UHZ, hU⟩ : ∃ U, U = ((((X604.setCell ⟨br, 4, none⟩ (Str (rtext sd 8192).1)).setCell ⟨br, 5, none⟩ (Str (rtext (rtext sd 8192).2 8192).1)).setCell ⟨br, 6, none⟩ (Str (rtext (rtext (rtext sd 8192).2 8192).2 8192).1)).setCell ⟨br, 7, none⟩ (Str (rtext (rtext (rtext (rtext sd 8192).2 8192).2 8192).2 8192).1)) := ⟨_, rfl⟩
              have HZ : Hid (Dk w UHZ [(pp, 111, ptrC p), (rb, 35, rqZ)] p br ((rtext (rtext (rtext (rtext sd 8192).2 8192).2 8192).2 8192).2) (⟨cc, q, tk, kd, (rtext sd 8192).1, (rtext (rtext sd 8192).2 8192).1, (rtext (rtext (rtext sd 8192).2 8192).2 8192).1, (rtext (rtext (rtext (rtext sd 8192).2 8192).2 8192).2 8192).1, 0, 0, [], [], false, false, 0, [], [], []⟩) none none none 0 0 0) := Lib.hid (H604.out.put0 (by rw [hU]; exact (((((Step.refl [br] X604).setCell (.inl (by simp)) _).setCell (.inl (by simp)) _).setCell (.inl (by simp)) _).setCell (.inl (by simp)) _)) (by rw [hU]; have hq := ((((H604.out.cmd.set 4 (Str (rtext sd 8192).1)).set 5 (Str (rtext (rtext sd 8192).2 8192).1)).set 6 (Str (rtext (rtext (rtext sd 8192).2 8192).2 8192).1)).set 7 (Str (rtext (rtext (rtext (rtext sd 8192).2 8192).2 8192).2 8192).1)); simpa [cmc] using hq) rfl rfl rfl)
              rw [← hU]
              clear hU m0 m1 m2 m3 m4 m5 m6 m7 m8 m9 m10 m11 m12 m13 m14 m15 m16 m17 ml mf0 mf1 mf2 mf3 mf4 mf5 mf6 mf7 mf8 mf9 mf10 mf11 mf12 mf13 mf14 mf15 mf16 mf17
              have GE : Hid (∃ a1 c1 a2 c2 a3 c3, Dk w UHZ [(pp, 111, ptrC p), (rb, 35, rqZ)] p br sf y a1 a2 a3 c1 c2 c3 ∧ LenC y) := by
                have e0 : (y, sf) = ((⟨cc, q, tk, kd, (rtext sd 8192).1, (rtext (rtext sd 8192).2 8192).1, (rtext (rtext (rtext sd 8192).2 8192).2 8192).1, (rtext (rtext (rtext (rtext sd 8192).2 8192).2 8192).2 8192).1, 0, 0, [], [], false, false, 0, [], [], []⟩ : Cm), ((rtext (rtext (rtext (rtext sd 8192).2 8192).2 8192).2 8192).2 : RS)) := HRQ.out.symm.trans (by have hk := HKN.out; subst hk; rfl)
                obtain ⟨e1, e2⟩ := Prod.mk.inj e0
                rw [e1, e2]
                exact ⟨none, 0, none, 0, none, 0, HZ.out, ⟨by simp, by simp, by simp⟩⟩
              clear HKN
              go_wp2_with fail
              go_meet
              exact GE
          · as_aux_lemma =>
              have HKN := Lib.hid hk
              have k1 : (kd == 1) = false := by simp [hk]
              have k2 : (kd == 2) = false := by simp [hk]
              have k3 : (kd == 3) = false := by simp [hk]
              have k4 : (kd == 4) = false := by simp [hk]
              have k5 : (kd == 5) = false := by simp [hk]
              have k6 : (kd == 6) = false := by simp [hk]
              have k7 : (kd == 7) = true := by simp [hk]
              have k8 : (kd == 8) = false := by simp [hk]
              have k9 : (kd == 9) = false := by simp [hk]
              have k10 : (kd == 10) = false := by simp [hk]
              have k11 : (kd == 11) = false := by simp [hk]
              have k12 : (kd == 12) = false := by simp [hk]
              have k13 : (kd == 13) = false := by simp [hk]
              have k14 : (kd == 14) = false := by simp [hk]
              clear hk
              go_wp2_with fail
              refine (dk_text H0.out (List.mem_cons_self ..)).mono ?_
              rintro e X701 ⟨rfl, t⟩
              have H701 := Lib.hid t
              clear t
              go_wp2_with fail
              refine (dk_text H701.out (List.mem_cons_self ..)).mono ?_
              rintro e X702 ⟨rfl, t⟩
              have H702 := Lib.hid t
              clear t
              go_wp2_with fail
              refine (dk_text H702.out (List.mem_cons_self ..)).mono ?_
              rintro e X703 ⟨rfl, t⟩
              have H703 := Lib.hid t
              clear t
              obtain ⟨⟨m0, m1, m2, m3, m4, m5, m6, m7, m8, m9, m10, m11, m12, m13, m14, m15, m16, m17⟩, ml, mf0, mf1, mf2, mf3, mf4, mf5, mf6, mf7, mf8, mf9, mf10, mf11, mf12, mf13, mf14, mf15, mf16, mf17⟩ := Blk.all18 (H703.out.cmd)
              try dsimp only at m0 m1 m2 m3 m4 m5 m6 m7 m8 m9 m10 m11 m12 m13 m14 m15 m16 m17
              go_upto_region 38 with fail
              obtain ⟨UHZ, hU⟩ : ∃ U, U = (((X703.setCell ⟨br, 4, none⟩ (Str (rtext sd 8192).1)).setCell ⟨br, 6, none⟩ (Str (rtext (rtext sd 8192).2 8192).1)).setCell ⟨br, 7, none⟩ (Str (rtext (rtext (rtext sd 8192).2 8192).2 8192).1)) := ⟨_, rfl⟩
              have HZ : Hid (Dk w UHZ [(pp, 111, ptrC p), (rb, 35, rqZ)] p br ((rtext (rtext (rtext sd 8192).2 8192).2 8192).2) (⟨cc, q, tk, kd, (rtext sd 8192).1, [], (rtext (rtext sd 8192).2 8192).1, (rtext (rtext (rtext sd 8192).2 8192).2 8192).1, 0, 0, [], [], false, false, 0, [], [], []⟩) none none none 0 0 0) := Lib.hid (H703.out.put0 (by rw [hU]; exact ((((Step.refl [br] X703).setCell (.inl (by simp)) _).setCell (.inl (by simp)) _).setCell (.inl (by simp)) _)) (by rw [hU]; have hq := (((H703.out.cmd.set 4 (Str (rtext sd 8192).1)).set 6 (Str (rtext (rtext sd 8192).2 8192).1)).set 7 (Str (rtext (rtext (rtext sd 8192).2 8192).2 8192).1)); simpa [cmc] using hq) rfl rfl rfl)
              rw [← hU]
              clear hU m0 m1 m2 m3 m4 m5 m6 m7 m8 m9 m10 m11 m12 m13 m14 m15 m16 m17 ml mf0 mf1 mf2 mf3 mf4 mf5 mf6 mf7 mf8 mf9 mf10 mf11 mf12 mf13 mf14 mf15 mf16 mf17
              have GE : Hid (∃ a1 c1 a2 c2 a3 c3, Dk w UHZ [(pp, 111, ptrC p), (rb, 35, rqZ)] p br sf y a1 a2 a3 c1 c2 c3 ∧ LenC y) := by
                have e0 : (y, sf) = ((⟨cc, q, tk, kd, (rtext sd 8192).1, [], (rtext (rtext sd 8192).2 8192).1, (rtext (rtext (rtext sd 8192).2 8192).2 8192).1, 0, 0, [], [], false, false, 0, [], [], []⟩ : Cm), ((rtext (rtext (rtext sd 8192).2 8192).2 8192).2 : RS)) := HRQ.out.symm.trans (by have hk := HKN.out; subst hk; rfl)
                obtain ⟨e1, e2⟩ := Prod.mk.inj e0
                rw [e1, e2]
                exact ⟨none, 0, none, 0, none, 0, HZ.out, ⟨by simp, by simp, by simp⟩⟩
              clear HKN
              go_wp2_with fail
              go_meet
              exact GE
          · as_aux_lemma =>
              have HKN := Lib.hid hk
              have k1 : (kd == 1) = false := by simp [hk]
              have k2 : (kd == 2) = false := by simp [hk]
              have k3 : (kd == 3) = false := by simp [hk]
              have k4 : (kd == 4) = false := by simp [hk]
              have k5 : (kd == 5) = false := by simp [hk]
              have k6 : (kd == 6) = false := by simp [hk]
              have k7 : (kd == 7) = false := by simp [hk]
              have k8 : (kd == 8) = true := by simp [hk]
              have k9 : (kd == 9) = false := by simp [hk]
              have k10 : (kd == 10) = false := by simp [hk]
              have k11 : (kd == 11) = false := by simp [hk]
              have k12 : (kd == 12) = false := by simp [hk]
              have k13 : (kd == 13) = false := by simp [hk]
              have k14 : (kd == 14) = false := by simp [hk]
              clear hk
              go_wp2_with fail
              refine (dk_text H0.out (List.mem_cons_self ..)).mono ?_
              rintro e X801 ⟨rfl, t⟩
              have H801 := Lib.hid t
              clear t
              obtain ⟨⟨m0, m1, m2, m3, m4, m5, m6, m7, m8, m9, m10, m11, m12, m13, m14, m15, m16, m17⟩, ml, mf0, mf1, mf2, mf3, mf4, mf5, mf6, mf7, mf8, mf9, mf10, mf11, mf12, mf13, mf14, mf15, mf16, mf17⟩ := Blk.all18 (H801.out.cmd)
              try dsimp only at m0 m1 m2 m3 m4 m5 m6 m7 m8 m9 m10 m11 m12 m13 m14 m15 m16 m17
              go_upto_region 38 with fail
              obtain ⟨UHZ, hU⟩ : ∃ U, U = (X801.setCell ⟨br, 4, none⟩ (Str (rtext sd 8192).1)) := ⟨_, rfl⟩
              have HZ : Hid (Dk w UHZ [(pp, 111, ptrC p), (rb, 35, rqZ)] p br ((rtext sd 8192).2) (⟨cc, q, tk, kd, (rtext sd 8192).1, [], [], [], 0, 0, [], [], false, false, 0, [], [], []⟩) none none none 0 0 0) := Lib.hid (H801.out.put0 (by rw [hU]; exact ((Step.refl [br] X801).setCell (.inl (by simp)) _)) (by rw [hU]; have hq := (H801.out.cmd.set 4 (Str (rtext sd 8192).1)); simpa [cmc] using hq) rfl rfl rfl)
              rw [← hU]
              clear hU m0 m1 m2 m3 m4 m5 m6 m7 m8 m9 m10 m11 m12 m13 m14 m15 m16 m17 ml mf0 mf1 mf2 mf3 mf4 mf5 mf6 mf7 mf8 mf9 mf10 mf11 mf12 mf13 mf14 mf15 mf16 mf17
              have GE : Hid (∃ a1 c1 a2 c2 a3 c3, Dk w UHZ [(pp, 111, ptrC p), (rb, 35, rqZ)] p br sf y a1 a2 a3 c1 c2 c3 ∧ LenC y) := by
                have e0 : (y, sf) = ((⟨cc, q, tk, kd, (rtext sd 8192).1, [], [], [], 0, 0, [], [], false, false, 0, [], [], []⟩ : Cm), ((rtext sd 8192).2 : RS)) := HRQ.out.symm.trans (by have hk := HKN.out; subst hk; rfl)
                obtain ⟨e1, e2⟩ := Prod.mk.inj e0
                rw [e1, e2]
                exact ⟨none, 0, none, 0, none, 0, HZ.out, ⟨by simp, by simp, by simp⟩⟩
              clear HKN
              go_wp2_with fail
              go_meet
              exact GE
          · as_aux_lemma =>
              have HKN := Lib.hid hk
              have k1 : (kd == 1) = false := by simp [hk]
              have k2 : (kd == 2) = false := by simp [hk]
              have k3 : (kd == 3) = false := by simp [hk]
              have k4 : (kd == 4) = false := by simp [hk]
              have k5 : (kd == 5) = false := by simp [hk]
              have k6 : (kd == 6) = false := by simp [hk]
              have k7 : (kd == 7) = false := by simp [hk]
              have k8 : (kd == 8) = false := by simp [hk]
              have k9 : (kd == 9) = true := by simp [hk]
              have k10 : (kd == 10) = false := by simp [hk]
              have k11 : (kd == 11) = false := by simp [hk]
              have k12 : (kd == 12) = false := by simp [hk]
              have k13 : (kd == 13) = false := by simp [hk]
              have k14 : (kd == 14) = false := by simp [hk]
              clear hk
              go_wp2_with fail
              refine (dk_text H0.out (List.mem_cons_self ..)).mono ?_
              rintro e X901 ⟨rfl, t⟩
              have H901 := Lib.hid t
              clear t
              go_wp2_with fail
              refine (dk_text H901.out (List.mem_cons_self ..)).mono ?_
              rintro e X902 ⟨rfl, t⟩
              have H902 := Lib.hid t
              clear t
              obtain ⟨⟨m0, m1, m2, m3, m4, m5, m6, m7, m8, m9, m10, m11, m12, m13, m14, m15, m16, m17⟩, ml, mf0, mf1, mf2, mf3, mf4, mf5, mf6, mf7, mf8, mf9, mf10, mf11, mf12, mf13, mf14, mf15, mf16, mf17⟩ := Blk.all18 (H902.out.cmd)
              try dsimp only at m0 m1 m2 m3 m4 m5 m6 m7 m8 m9 m10 m11 m12 m13 m14 m15 m16 m17
              go_upto_region 38 with fail
              obtain ⟨UHZ, hU⟩ : ∃ U, U = ((X902.setCell ⟨br, 4, none⟩ (Str (rtext sd 8192).1)).setCell ⟨br, 5, none⟩ (Str (rtext (rtext sd 8192).2 8192).1)) := ⟨_, rfl⟩
              have HZ : Hid (Dk w UHZ [(pp, 111, ptrC p), (rb, 35, rqZ)] p br ((rtext (rtext sd 8192).2 8192).2) (⟨cc, q, tk, kd, (rtext sd 8192).1, (rtext (rtext sd 8192).2 8192).1, [], [], 0, 0, [], [], false, false, 0, [], [], []⟩) none none none 0 0 0) := Lib.hid (H902.out.put0 (by rw [hU]; exact (((Step.refl [br] X902).setCell (.inl (by simp)) _).setCell (.inl (by simp)) _)) (by rw [hU]; have hq := ((H902.out.cmd.set 4 (Str (rtext sd 8192).1)).set 5 (Str (rtext (rtext sd 8192).2 8192).1)); simpa [cmc] using hq) rfl rfl rfl)
              rw [← hU]
              clear hU m0 m1 m2 m3 m4 m5 m6 m7 m8 m9 m10 m11 m12 m13 m14 m15 m16 m17 ml mf0 mf1 mf2 mf3 mf4 mf5 mf6 mf7 mf8 mf9 mf10 mf11 mf12 mf13 mf14 mf15 mf16 mf17
              have GE : Hid (∃ a1 c1 a2 c2 a3 c3, Dk w UHZ [(pp, 111, ptrC p), (rb, 35, rqZ)] p br sf y a1 a2 a3 c1 c2 c3 ∧ LenC y) := by
                have e0 : (y, sf) = ((⟨cc, q, tk, kd, (rtext sd 8192).1, (rtext (rtext sd 8192).2 8192).1, [], [], 0, 0, [], [], false, false, 0, [], [], []⟩ : Cm), ((rtext (rtext sd 8192).2 8192).2 : RS)) := HRQ.out.symm.trans (by have hk := HKN.out; subst hk; rfl)
                obtain ⟨e1, e2⟩ := Prod.mk.inj e0
                rw [e1, e2]
                exact ⟨none, 0, none, 0, none, 0, HZ.out, ⟨by simp, by simp, by simp⟩⟩
              clear HKN
              go_wp2_with fail
              go_meet
              exact GE
          · as_aux_lemma =>
              have HKN := Lib.hid hk
              have k1 : (kd == 1) = false := by simp [hk]
              have k2 : (kd == 2) = false := by simp [hk]
              have k3 : (kd == 3) = false := by simp [hk]
              have k4 : (kd == 4) = false := by simp [hk]
              have k5 : (kd == 5) = false := by simp [hk]
              have k6 : (kd == 6) = false := by simp [hk]
              have k7 : (kd == 7) = false := by simp [hk]
              have k8 : (kd == 8) = false := by simp [hk]
              have k9 : (kd == 9) = false := by simp [hk]
              have k10 : (kd == 10) = true := by simp [hk]
              have k11 : (kd == 11) = false := by simp [hk]
              have k12 : (kd == 12) = false := by simp [hk]
              have k13 : (kd == 13) = false := by simp [hk]
              have k14 : (kd == 14) = false := by simp [hk]
              clear hk
              go_wp2_with fail
              refine (dk_text H0.out (List.mem_cons_self ..)).mono ?_
              rintro e X1001 ⟨rfl, t⟩
              have H1001 := Lib.hid t
              clear t
              obtain ⟨⟨m0, m1, m2, m3, m4, m5, m6, m7, m8, m9, m10, m11, m12, m13, m14, m15, m16, m17⟩, ml, mf0, mf1, mf2, mf3, mf4, mf5, mf6, mf7, mf8, mf9, mf10, mf11, mf12, mf13, mf14, mf15, mf16, mf17⟩ := Blk.all18 (H1001.out.cmd)
              try dsimp only at m0 m1 m2 m3 m4 m5 m6 m7 m8 m9 m10 m11 m12 m13 m14 m15 m16 m17
              go_upto_region 38 with fail
              obtain ⟨UHZ, hU⟩ : ∃ U, U = (X1001.setCell ⟨br, 4, none⟩ (Str (rtext sd 8192).1)) := ⟨_, rfl⟩
              have HZ : Hid (Dk w UHZ [(pp, 111, ptrC p), (rb, 35, rqZ)] p br ((rtext sd 8192).2) (⟨cc, q, tk, kd, (rtext sd 8192).1, [], [], [], 0, 0, [], [], false, false, 0, [], [], []⟩) none none none 0 0 0) := Lib.hid (H1001.out.put0 (by rw [hU]; exact ((Step.refl [br] X1001).setCell (.inl (by simp)) _)) (by rw [hU]; have hq := (H1001.out.cmd.set 4 (Str (rtext sd 8192).1)); simpa [cmc] using hq) rfl rfl rfl)
              rw [← hU]
              clear hU m0 m1 m2 m3 m4 m5 m6 m7 m8 m9 m10 m11 m12 m13 m14 m15 m16 m17 ml mf0 mf1 mf2 mf3 mf4 mf5 mf6 mf7 mf8 mf9 mf10 mf11 mf12 mf13 mf14 mf15 mf16 mf17
              have GE : Hid (∃ a1 c1 a2 c2 a3 c3, Dk w UHZ [(pp, 111, ptrC p), (rb, 35, rqZ)] p br sf y a1 a2 a3 c1 c2 c3 ∧ LenC y) := by
                have e0 : (y, sf) = ((⟨cc, q, tk, kd, (rtext sd 8192).1, [], [], [], 0, 0, [], [], false, false, 0, [], [], []⟩ : Cm), ((rtext sd 8192).2 : RS)) := HRQ.out.symm.trans (by have hk := HKN.out; subst hk; rfl)
                obtain ⟨e1, e2⟩ := Prod.mk.inj e0
                rw [e1, e2]
                exact ⟨none, 0, none, 0, none, 0, HZ.out, ⟨by simp, by simp, by simp⟩⟩
              clear HKN
              go_wp2_with fail
              go_meet
              exact GE
          · as_aux_lemma =>
              have HKN := Lib.hid hk
              have k1 : (kd == 1) = false := by simp [hk]
              have k2 : (kd == 2) = false := by simp [hk]
              have k3 : (kd == 3) = false := by simp [hk]
              have k4 : (kd == 4) = false := by simp [hk]
              have k5 : (kd == 5) = false := by simp [hk]
              have k6 : (kd == 6) = false := by simp [hk]
              have k7 : (kd == 7) = false := by simp [hk]
              have k8 : (kd == 8) = false := by simp [hk]
              have k9 : (kd == 9) = false := by simp [hk]
              have k10 : (kd == 10) = false := by simp [hk]
              have k11 : (kd == 11) = true := by simp [hk]
              have k12 : (kd == 12) = false := by simp [hk]
              have k13 : (kd == 13) = false := by simp [hk]
              have k14 : (kd == 14) = false := by simp [hk]
              clear hk
              go_wp2_with fail
              refine (dk_text H0.out (List.mem_cons_self ..)).mono ?_
              rintro e X1101 ⟨rfl, t⟩
              have H1101 := Lib.hid t
              clear t
              go_wp2_with fail
              refine (dk_text H1101.out (List.mem_cons_self ..)).mono ?_
              rintro e X1102 ⟨rfl, t⟩
              have H1102 := Lib.hid t
              clear t
              go_wp2_with fail
              refine (dk_text H1102.out (List.mem_cons_self ..)).mono ?_
              rintro e X1103 ⟨rfl, t⟩
              have H1103 := Lib.hid t
              clear t
              obtain ⟨⟨m0, m1, m2, m3, m4, m5, m6, m7, m8, m9, m10, m11, m12, m13, m14, m15, m16, m17⟩, ml, mf0, mf1, mf2, mf3, mf4, mf5, mf6, mf7, mf8, mf9, mf10, mf11, mf12, mf13, mf14, mf15, mf16, mf17⟩ := Blk.all18 (H1103.out.cmd)
              try dsimp only at m0 m1 m2 m3 m4 m5 m6 m7 m8 m9 m10 m11 m12 m13 m14 m15 m16 m17
              go_upto_region 35 with fail
              obtain ⟨UHY, hU⟩ : ∃ U, U = (((X1103.setCell ⟨br, 4, none⟩ (Str (rtext sd 8192).1)).setCell ⟨br, 10, none⟩ (Str (rtext (rtext sd 8192).2 8192).1)).setCell ⟨br, 11, none⟩ (Str (rtext (rtext (rtext sd 8192).2 8192).2 8192).1)) := ⟨_, rfl⟩
              have HY : Hid (Dk w UHY [(pp, 111, ptrC p), (rb, 35, rqZ)] p br ((rtext (rtext (rtext sd 8192).2 8192).2 8192).2) (⟨cc, q, tk, kd, (rtext sd 8192).1, [], [], [], 0, 0, (rtext (rtext sd 8192).2 8192).1, (rtext (rtext (rtext sd 8192).2 8192).2 8192).1, false, false, 0, [], [], []⟩) none none none 0 0 0) := Lib.hid (H1103.out.put0 (by rw [hU]; exact ((((Step.refl [br] X1103).setCell (.inl (by simp)) _).setCell (.inl (by simp)) _).setCell (.inl (by simp)) _)) (by rw [hU]; have hq := (((H1103.out.cmd.set 4 (Str (rtext sd 8192).1)).set 10 (Str (rtext (rtext sd 8192).2 8192).1)).set 11 (Str (rtext (rtext (rtext sd 8192).2 8192).2 8192).1)); simpa [cmc] using hq) rfl rfl rfl)
              rw [← hU]
              clear hU m0 m1 m2 m3 m4 m5 m6 m7 m8 m9 m10 m11 m12 m13 m14 m15 m16 m17 ml mf0 mf1 mf2 mf3 mf4 mf5 mf6 mf7 mf8 mf9 mf10 mf11 mf12 mf13 mf14 mf15 mf16 mf17
              have H1104d := Lib.hid (HY.out.quiet ((Step.refl [] _).drew))
              have HPB : Hid (pp ≠ br) := Lib.hid (HY.out.ne _ (List.mem_cons_self ..))
              refine wp_region_held_drew (S := fun V => Hid (Blk V pp 111 (ptrC p))) (by kernel_rfl) (Lib.hid (H1104d.out.blk (List.mem_cons_self ..))) (fun hHeld => ?_)
              refine wpAnyH_take (i := 0) (v := ?_) rfl (by kernel_rfl) (by kernel_rfl) (by kernel_rfl) (fun _ _ _ h => h) (Or.inl ⟨by rfl, ?_⟩) hHeld ?_
              rotate_left
              · intro w hSw
                have hSw1 := hSw
                clear hSw
                have tc := hSw1.out.cell 0
                have tl := hSw1.out.lt
                simp only [ptrC, List.getElem?_toArray, List.getElem?_cons_zero] at tc
                go_simp
                try (with_reducible rfl)
              try simp only [Act.put, List.setIfInBounds_toArray, List.set_cons_zero, List.set_cons_succ, List.getElem_toArray, List.getElem_cons_zero, List.getElem_cons_succ]
              refine wpAnyH_take (i := 2) (v := ?_) rfl (by kernel_rfl) (by kernel_rfl) (by kernel_rfl) (fun _ _ _ h => h) (Or.inl ⟨by rfl, ?_⟩) hHeld ?_
              rotate_left
              · intro w hSw
                have hSw1 := hSw
                clear hSw
                have tc := hSw1.out.cell 0
                have tl := hSw1.out.lt
                simp only [ptrC, List.getElem?_toArray, List.getElem?_cons_zero] at tc
                go_simp
                try (with_reducible rfl)
              try simp only [Act.put, List.setIfInBounds_toArray, List.set_cons_zero, List.set_cons_succ, List.getElem_toArray, List.getElem_cons_zero, List.getElem_cons_succ]
              refine wpAnyH_ready (rs := [1]) (by kernel_rfl) (by simp) ?_
              refine AllReadyH.cons rfl (fun K hK => ?_) AllReadyH.nil
              go_simp
              refine (dk_flag H1104d.out).mono ?_; rintro e X1105 ⟨rfl, t⟩; have H1105 := Lib.hid t; clear t
              go_wp2_with fail
              refine hK.out _ _ (Lib.hid (H1105.out.blk (List.mem_cons_self ..))) (fun hHeld2 => ?_)
              clear hK K hHeld
              try simp only [Act.put, List.setIfInBounds_toArray, List.set_cons_zero, List.set_cons_succ, List.getElem_toArray, List.getElem_cons_zero, List.getElem_cons_succ]
              refine wpAnyH_take (i := 4) (v := ?_) rfl (by kernel_rfl) (by kernel_rfl) (by kernel_rfl) (fun _ _ _ h => h) (Or.inl ⟨by rfl, ?_⟩) hHeld2 ?_
              rotate_left
              · intro w hSw
                have hSw1 := hSw
                clear hSw
                try dsimp only at hSw1
                go_simp
                try (with_reducible rfl)
              try simp only [Act.put, List.setIfInBounds_toArray, List.set_cons_zero, List.set_cons_succ, List.getElem_toArray, List.getElem_cons_zero, List.getElem_cons_succ]
              refine wpAnyH_take (i := 5) (v := ?_) rfl (by kernel_rfl) (by kernel_rfl) (by kernel_rfl) (fun _ _ _ h => h) (Or.inl ⟨by rfl, ?_⟩) hHeld2 ?_
              rotate_left
              · intro w hSw
                have hSw1 := hSw
                clear hSw
                try dsimp only at hSw1
                go_simp
                try (with_reducible rfl)
              try simp only [Act.put, List.setIfInBounds_toArray, List.set_cons_zero, List.set_cons_succ, List.getElem_toArray, List.getElem_cons_zero, List.getElem_cons_succ]
              refine wpAnyH_ready (rs := [3]) (by kernel_rfl) (by simp) ?_
              refine AllReadyH.cons rfl (fun K hK => ?_) AllReadyH.nil
              go_simp
              refine (dk_flag H1105.out).mono ?_; rintro e X1106 ⟨rfl, t⟩; have H1106 := Lib.hid t; clear t; obtain ⟨⟨m0, m1, m2, m3, m4, m5, m6, m7, m8, m9, m10, m11, m12, m13, m14, m15, m16, m17⟩, ml, mf0, mf1, mf2, mf3, mf4, mf5, mf6, mf7, mf8, mf9, mf10, mf11, mf12, mf13, mf14, mf15, mf16, mf17⟩ := Blk.all18 (H1106.out.cmd); try dsimp only at m0 m1 m2 m3 m4 m5 m6 m7 m8 m9 m10 m11 m12 m13 m14 m15 m16 m17
              go_wp2_with fail
              refine hK.out _ _ (Lib.hid (H1106.out.blk (List.mem_cons_self ..))) (fun hHeld3 => ?_)
              clear hK K hHeld2
              try simp only [Act.put, List.setIfInBounds_toArray, List.set_cons_zero, List.set_cons_succ, List.getElem_toArray, List.getElem_cons_zero, List.getElem_cons_succ]
              refine wpAnyH_ready (rs := [6]) (by kernel_rfl) (by simp) ?_
              refine AllReadyH.cons rfl (fun K hK => ?_) AllReadyH.nil
              go_simp
              skip
              go_wp2_with fail
              refine hK.out _ _ (Lib.hid (hHeld3.out.far HPB.out _)) (fun hHeld4 => ?_)
              clear hK K hHeld3
              try simp only [Act.put, List.setIfInBounds_toArray, List.set_cons_zero, List.set_cons_succ, List.getElem_toArray, List.getElem_cons_zero, List.getElem_cons_succ]
              refine wpAnyH_take (i := 7) (v := ?_) rfl (by kernel_rfl) (by kernel_rfl) (by kernel_rfl) (fun _ _ _ h => h) (Or.inl ⟨by rfl, ?_⟩) hHeld4 ?_
              rotate_left
              · intro w hSw
                have hSw1 := hSw
                clear hSw
                try dsimp only at hSw1
                go_simp
                try (with_reducible rfl)
              try simp only [Act.put, List.setIfInBounds_toArray, List.set_cons_zero, List.set_cons_succ, List.getElem_toArray, List.getElem_cons_zero, List.getElem_cons_succ]
              refine wpAnyH_take (i := 8) (v := ?_) rfl (by kernel_rfl) (by kernel_rfl) (by kernel_rfl) (fun _ _ _ h => h) (Or.inl ⟨by rfl, ?_⟩) hHeld4 ?_
              rotate_left
              · intro w hSw
                have hSw1 := hSw
                clear hSw
                try dsimp only at hSw1
                go_simp
                try (with_reducible rfl)
              try simp only [Act.put, List.setIfInBounds_toArray, List.set_cons_zero, List.set_cons_succ, List.getElem_toArray, List.getElem_cons_zero, List.getElem_cons_succ]
              refine wpAnyH_ready (rs := [9]) (by kernel_rfl) (by simp) ?_
              refine AllReadyH.cons rfl (fun K hK => ?_) AllReadyH.nil
              go_simp
              skip
              go_wp2_with fail
              refine hK.out _ _ (Lib.hid (hHeld4.out.far HPB.out _)) (fun hHeld5 => ?_)
              clear hK K hHeld4
              try simp only [Act.put, List.setIfInBounds_toArray, List.set_cons_zero, List.set_cons_succ, List.getElem_toArray, List.getElem_cons_zero, List.getElem_cons_succ]
              refine wpAnyH_done (by kernel_rfl) ?_ _
              go_upto_region 38 with fail
              obtain ⟨UHZ, hU⟩ : ∃ U, U = ((X1106.setCell ⟨br, 12, none⟩ (.bool (rflag (rtext (rtext (rtext sd 8192).2 8192).2 8192).2).1)).setCell ⟨br, 13, none⟩ (.bool (rflag (rflag (rtext (rtext (rtext sd 8192).2 8192).2 8192).2).2).1)) := ⟨_, rfl⟩
              have HZ : Hid (Dk w UHZ [(pp, 111, ptrC p), (rb, 35, rqZ)] p br ((rflag (rflag (rtext (rtext (rtext sd 8192).2 8192).2 8192).2).2).2) (⟨cc, q, tk, kd, (rtext sd 8192).1, [], [], [], 0, 0, (rtext (rtext sd 8192).2 8192).1, (rtext (rtext (rtext sd 8192).2 8192).2 8192).1, (rflag (rtext (rtext (rtext sd 8192).2 8192).2 8192).2).1, (rflag (rflag (rtext (rtext (rtext sd 8192).2 8192).2 8192).2).2).1, 0, [], [], []⟩) none none none 0 0 0) := Lib.hid (H1106.out.put0 (by rw [hU]; exact (((Step.refl [br] X1106).setCell (.inl (by simp)) _).setCell (.inl (by simp)) _)) (by rw [hU]; have hq := ((H1106.out.cmd.set 12 (.bool (rflag (rtext (rtext (rtext sd 8192).2 8192).2 8192).2).1)).set 13 (.bool (rflag (rflag (rtext (rtext (rtext sd 8192).2 8192).2 8192).2).2).1)); simpa [cmc] using hq) rfl rfl rfl)
              rw [← hU]
              clear hU m0 m1 m2 m3 m4 m5 m6 m7 m8 m9 m10 m11 m12 m13 m14 m15 m16 m17 ml mf0 mf1 mf2 mf3 mf4 mf5 mf6 mf7 mf8 mf9 mf10 mf11 mf12 mf13 mf14 mf15 mf16 mf17
              have GE : Hid (∃ a1 c1 a2 c2 a3 c3, Dk w UHZ [(pp, 111, ptrC p), (rb, 35, rqZ)] p br sf y a1 a2 a3 c1 c2 c3 ∧ LenC y) := by
                have e0 : (y, sf) = ((⟨cc, q, tk, kd, (rtext sd 8192).1, [], [], [], 0, 0, (rtext (rtext sd 8192).2 8192).1, (rtext (rtext (rtext sd 8192).2 8192).2 8192).1, (rflag (rtext (rtext (rtext sd 8192).2 8192).2 8192).2).1, (rflag (rflag (rtext (rtext (rtext sd 8192).2 8192).2 8192).2).2).1, 0, [], [], []⟩ : Cm), ((rflag (rflag (rtext (rtext (rtext sd 8192).2 8192).2 8192).2).2).2 : RS)) := HRQ.out.symm.trans (by have hk := HKN.out; subst hk; rfl)
                obtain ⟨e1, e2⟩ := Prod.mk.inj e0
                rw [e1, e2]
                exact ⟨none, 0, none, 0, none, 0, HZ.out, ⟨by simp, by simp, by simp⟩⟩
              clear HKN
              go_wp2_with fail
              go_meet
              exact GE
          · as_aux_lemma =>
              have HKN := Lib.hid hk
              have k1 : (kd == 1) = false := by simp [hk]
              have k2 : (kd == 2) = false := by simp [hk]
              have k3 : (kd == 3) = false := by simp [hk]
              have k4 : (kd == 4) = false := by simp [hk]
              have k5 : (kd == 5) = false := by simp [hk]
              have k6 : (kd == 6) = false := by simp [hk]
              have k7 : (kd == 7) = false := by simp [hk]
              have k8 : (kd == 8) = false := by simp [hk]
              have k9 : (kd == 9) = false := by simp [hk]
              have k10 : (kd == 10) = false := by simp [hk]
              have k11 : (kd == 11) = false := by simp [hk]
              have k12 : (kd == 12) = true := by simp [hk]
              have k13 : (kd == 13) = false := by simp [hk]
              have k14 : (kd == 14) = false := by simp [hk]
              clear hk
              go_wp2_with fail
              refine (dk_text H0.out (List.mem_cons_self ..)).mono ?_
              rintro e X1201 ⟨rfl, t⟩
              have H1201 := Lib.hid t
              clear t
              go_wp2_with fail
              refine (dk_text H1201.out (List.mem_cons_self ..)).mono ?_
              rintro e X1202 ⟨rfl, t⟩
              have H1202 := Lib.hid t
              clear t
              go_wp2_with fail
              refine (dk_text H1202.out (List.mem_cons_self ..)).mono ?_
              rintro e X1203 ⟨rfl, t⟩
              have H1203 := Lib.hid t
              clear t
              obtain ⟨⟨m0, m1, m2, m3, m4, m5, m6, m7, m8, m9, m10, m11, m12, m13, m14, m15, m16, m17⟩, ml, mf0, mf1, mf2, mf3, mf4, mf5, mf6, mf7, mf8, mf9, mf10, mf11, mf12, mf13, mf14, mf15, mf16, mf17⟩ := Blk.all18 (H1203.out.cmd)
              try dsimp only at m0 m1 m2 m3 m4 m5 m6 m7 m8 m9 m10 m11 m12 m13 m14 m15 m16 m17
              go_upto_region 38 with fail
              obtain ⟨UHZ, hU⟩ : ∃ U, U = (((X1203.setCell ⟨br, 4, none⟩ (Str (rtext sd 8192).1)).setCell ⟨br, 10, none⟩ (Str (rtext (rtext sd 8192).2 8192).1)).setCell ⟨br, 11, none⟩ (Str (rtext (rtext (rtext sd 8192).2 8192).2 8192).1)) := ⟨_, rfl⟩
              have HZ : Hid (Dk w UHZ [(pp, 111, ptrC p), (rb, 35, rqZ)] p br ((rtext (rtext (rtext sd 8192).2 8192).2 8192).2) (⟨cc, q, tk, kd, (rtext sd 8192).1, [], [], [], 0, 0, (rtext (rtext sd 8192).2 8192).1, (rtext (rtext (rtext sd 8192).2 8192).2 8192).1, false, false, 0, [], [], []⟩) none none none 0 0 0) := Lib.hid (H1203.out.put0 (by rw [hU]; exact ((((Step.refl [br] X1203).setCell (.inl (by simp)) _).setCell (.inl (by simp)) _).setCell (.inl (by simp)) _)) (by rw [hU]; have hq := (((H1203.out.cmd.set 4 (Str (rtext sd 8192).1)).set 10 (Str (rtext (rtext sd 8192).2 8192).1)).set 11 (Str (rtext (rtext (rtext sd 8192).2 8192).2 8192).1)); simpa [cmc] using hq) rfl rfl rfl)
              rw [← hU]
              clear hU m0 m1 m2 m3 m4 m5 m6 m7 m8 m9 m10 m11 m12 m13 m14 m15 m16 m17 ml mf0 mf1 mf2 mf3 mf4 mf5 mf6 mf7 mf8 mf9 mf10 mf11 mf12 mf13 mf14 mf15 mf16 mf17
              have GE : Hid (∃ a1 c1 a2 c2 a3 c3, Dk w UHZ [(pp, 111, ptrC p), (rb, 35, rqZ)] p br sf y a1 a2 a3 c1 c2 c3 ∧ LenC y) := by
                have e0 : (y, sf) = ((⟨cc, q, tk, kd, (rtext sd 8192).1, [], [], [], 0, 0, (rtext (rtext sd 8192).2 8192).1, (rtext (rtext (rtext sd 8192).2 8192).2 8192).1, false, false, 0, [], [], []⟩ : Cm), ((rtext (rtext (rtext sd 8192).2 8192).2 8192).2 : RS)) := HRQ.out.symm.trans (by have hk := HKN.out; subst hk; rfl)
                obtain ⟨e1, e2⟩ := Prod.mk.inj e0
                rw [e1, e2]
                exact ⟨none, 0, none, 0, none, 0, HZ.out, ⟨by simp, by simp, by simp⟩⟩
              clear HKN
              go_wp2_with fail
              go_meet
              exact GE
          · as_aux_lemma =>
              have HKN := Lib.hid hk
              have k1 : (kd == 1) = false := by simp [hk]
              have k2 : (kd == 2) = false := by simp [hk]
              have k3 : (kd == 3) = false := by simp [hk]
              have k4 : (kd == 4) = false := by simp [hk]
              have k5 : (kd == 5) = false := by simp [hk]
              have k6 : (kd == 6) = false := by simp [hk]
              have k7 : (kd == 7) = false := by simp [hk]
              have k8 : (kd == 8) = false := by simp [hk]
              have k9 : (kd == 9) = false := by simp [hk]
              have k10 : (kd == 10) = false := by simp [hk]
              have k11 : (kd == 11) = false := by simp [hk]
              have k12 : (kd == 12) = false := by simp [hk]
              have k13 : (kd == 13) = true := by simp [hk]
              have k14 : (kd == 14) = false := by simp [hk]
              clear hk
              go_wp2_with fail
              refine (dk_text H0.out (List.mem_cons_self ..)).mono ?_
              rintro e X1301 ⟨rfl, t⟩
              have H1301 := Lib.hid t
              clear t
              go_wp2_with fail
              refine (dk_text H1301.out (List.mem_cons_self ..)).mono ?_
              rintro e X1302 ⟨rfl, t⟩
              have H1302 := Lib.hid t
              clear t
              obtain ⟨⟨m0, m1, m2, m3, m4, m5, m6, m7, m8, m9, m10, m11, m12, m13, m14, m15, m16, m17⟩, ml, mf0, mf1, mf2, mf3, mf4, mf5, mf6, mf7, mf8, mf9, mf10, mf11, mf12, mf13, mf14, mf15, mf16, mf17⟩ := Blk.all18 (H1302.out.cmd)
              try dsimp only at m0 m1 m2 m3 m4 m5 m6 m7 m8 m9 m10 m11 m12 m13 m14 m15 m16 m17
              go_upto_region 38 with fail
              obtain ⟨UHZ, hU⟩ : ∃ U, U = ((X1302.setCell ⟨br, 4, none⟩ (Str (rtext sd 8192).1)).setCell ⟨br, 5, none⟩ (Str (rtext (rtext sd 8192).2 8192).1)) := ⟨_, rfl⟩
              have HZ : Hid (Dk w UHZ [(pp, 111, ptrC p), (rb, 35, rqZ)] p br ((rtext (rtext sd 8192).2 8192).2) (⟨cc, q, tk, kd, (rtext sd 8192).1, (rtext (rtext sd 8192).2 8192).1, [], [], 0, 0, [], [], false, false, 0, [], [], []⟩) none none none 0 0 0) := Lib.hid (H1302.out.put0 (by rw [hU]; exact (((Step.refl [br] X1302).setCell (.inl (by simp)) _).setCell (.inl (by simp)) _)) (by rw [hU]; have hq := ((H1302.out.cmd.set 4 (Str (rtext sd 8192).1)).set 5 (Str (rtext (rtext sd 8192).2 8192).1)); simpa [cmc] using hq) rfl rfl rfl)
              rw [← hU]
              clear hU m0 m1 m2 m3 m4 m5 m6 m7 m8 m9 m10 m11 m12 m13 m14 m15 m16 m17 ml mf0 mf1 mf2 mf3 mf4 mf5 mf6 mf7 mf8 mf9 mf10 mf11 mf12 mf13 mf14 mf15 mf16 mf17
              have GE : Hid (∃ a1 c1 a2 c2 a3 c3, Dk w UHZ [(pp, 111, ptrC p), (rb, 35, rqZ)] p br sf y a1 a2 a3 c1 c2 c3 ∧ LenC y) := by
                have e0 : (y, sf) = ((⟨cc, q, tk, kd, (rtext sd 8192).1, (rtext (rtext sd 8192).2 8192).1, [], [], 0, 0, [], [], false, false, 0, [], [], []⟩ : Cm), ((rtext (rtext sd 8192).2 8192).2 : RS)) := HRQ.out.symm.trans (by have hk := HKN.out; subst hk; rfl)
                obtain ⟨e1, e2⟩ := Prod.mk.inj e0
                rw [e1, e2]
                exact ⟨none, 0, none, 0, none, 0, HZ.out, ⟨by simp, by simp, by simp⟩⟩
              clear HKN
              go_wp2_with fail
              go_meet
              exact GE
          · as_aux_lemma =>
              have HKN := Lib.hid hk
              have k1 : (kd == 1) = false := by simp [hk]
              have k2 : (kd == 2) = false := by simp [hk]
              have k3 : (kd == 3) = false := by simp [hk]
              have k4 : (kd == 4) = false := by simp [hk]
              have k5 : (kd == 5) = false := by simp [hk]
              have k6 : (kd == 6) = false := by simp [hk]
              have k7 : (kd == 7) = false := by simp [hk]
              have k8 : (kd == 8) = false := by simp [hk]
              have k9 : (kd == 9) = false := by simp [hk]
              have k10 : (kd == 10) = false := by simp [hk]
              have k11 : (kd == 11) = false := by simp [hk]
              have k12 : (kd == 12) = false := by simp [hk]
              have k13 : (kd == 13) = false := by simp [hk]
              have k14 : (kd == 14) = true := by simp [hk]
              clear hk
              go_wp2_with fail
              refine (dk_text H0.out (List.mem_cons_self ..)).mono ?_
              rintro e X1401 ⟨rfl, t⟩
              have H1401 := Lib.hid t
              clear t
              go_wp2_with fail
              refine (dk_text H1401.out (List.mem_cons_self ..)).mono ?_
              rintro e X1402 ⟨rfl, t⟩
              have H1402 := Lib.hid t
              clear t
              obtain ⟨⟨m0, m1, m2, m3, m4, m5, m6, m7, m8, m9, m10, m11, m12, m13, m14, m15, m16, m17⟩, ml, mf0, mf1, mf2, mf3, mf4, mf5, mf6, mf7, mf8, mf9, mf10, mf11, mf12, mf13, mf14, mf15, mf16, mf17⟩ := Blk.all18 (H1402.out.cmd)
              try dsimp only at m0 m1 m2 m3 m4 m5 m6 m7 m8 m9 m10 m11 m12 m13 m14 m15 m16 m17
              go_upto_region 38 with fail
              obtain ⟨UHZ, hU⟩ : ∃ U, U = ((X1402.setCell ⟨br, 4, none⟩ (Str (rtext sd 8192).1)).setCell ⟨br, 5, none⟩ (Str (rtext (rtext sd 8192).2 8192).1)) := ⟨_, rfl⟩
              have HZ : Hid (Dk w UHZ [(pp, 111, ptrC p), (rb, 35, rqZ)] p br ((rtext (rtext sd 8192).2 8192).2) (⟨cc, q, tk, kd, (rtext sd 8192).1, (rtext (rtext sd 8192).2 8192).1, [], [], 0, 0, [], [], false, false, 0, [], [], []⟩) none none none 0 0 0) := Lib.hid (H1402.out.put0 (by rw [hU]; exact (((Step.refl [br] X1402).setCell (.inl (by simp)) _).setCell (.inl (by simp)) _)) (by rw [hU]; have hq := ((H1402.out.cmd.set 4 (Str (rtext sd 8192).1)).set 5 (Str (rtext (rtext sd 8192).2 8192).1)); simpa [cmc] using hq) rfl rfl rfl)
              rw [← hU]
              clear hU m0 m1 m2 m3 m4 m5 m6 m7 m8 m9 m10 m11 m12 m13 m14 m15 m16 m17 ml mf0 mf1 mf2 mf3 mf4 mf5 mf6 mf7 mf8 mf9 mf10 mf11 mf12 mf13 mf14 mf15 mf16 mf17
              have GE : Hid (∃ a1 c1 a2 c2 a3 c3, Dk w UHZ [(pp, 111, ptrC p), (rb, 35, rqZ)] p br sf y a1 a2 a3 c1 c2 c3 ∧ LenC y) := by
                have e0 : (y, sf) = ((⟨cc, q, tk, kd, (rtext sd 8192).1, (rtext (rtext sd 8192).2 8192).1, [], [], 0, 0, [], [], false, false, 0, [], [], []⟩ : Cm), ((rtext (rtext sd 8192).2 8192).2 : RS)) := HRQ.out.symm.trans (by have hk := HKN.out; subst hk; rfl)
                obtain ⟨e1, e2⟩ := Prod.mk.inj e0
                rw [e1, e2]
                exact ⟨none, 0, none, 0, none, 0, HZ.out, ⟨by simp, by simp, by simp⟩⟩
              clear HKN
              go_wp2_with fail
              go_meet
              exact GE
        · have k1 : (kd == 1) = false := by simp; omega
          have k2 : (kd == 2) = false := by simp; omega
          have k3 : (kd == 3) = false := by simp; omega
          have k4 : (kd == 4) = false := by simp; omega
          have k5 : (kd == 5) = false := by simp; omega
          have k6 : (kd == 6) = false := by simp; omega
          have k7 : (kd == 7) = false := by simp; omega
          have k8 : (kd == 8) = false := by simp; omega
          have k9 : (kd == 9) = false := by simp; omega
          have k10 : (kd == 10) = false := by simp; omega
          have k11 : (kd == 11) = false := by simp; omega
          have k12 : (kd == 12) = false := by simp; omega
          have k13 : (kd == 13) = false := by simp; omega
          have k14 : (kd == 14) = false := by simp; omega
          have HKN : Hid (¬ (1 ≤ kd ∧ kd ≤ 14)) := Lib.hid hk
          clear hk
          have GE : Hid (∃ a1 c1 a2 c2 a3 c3, Dk w VV [(pp, 111, ptrC p), (rb, 35, rqZ)] p br sf y a1 a2 a3 c1 c2 c3 ∧ LenC y) := by
            have e0 : (y, sf) = ((⟨cc, q, tk, kd, [], [], [], [], 0, 0, [], [], false, false, 0, [], [], []⟩ : Cm), sd) := HRQ.out.symm.trans (by have := HKN.out; rw [rqK, if_neg (by omega), if_neg (by omega), if_neg (by omega), if_neg (by omega), if_neg (by omega), if_neg (by omega), if_neg (by omega), if_neg (by omega), if_neg (by omega), if_neg (by omega)])
            obtain ⟨e1, e2⟩ := Prod.mk.inj e0
            rw [e1, e2]
            exact ⟨none, 0, none, 0, none, 0, H0.out, ⟨by simp, by simp, by simp⟩⟩
          clear HKN
          go_wp2_with fail
          go_meet
          exact GE
      case rest =>
        as_aux_lemma =>
          rename World => V
          obtain ⟨a1, c1, a2, c2, a3, c3, hd, hln⟩ := Hid.out hcut
          have HD := Lib.hid hd
          have HLN := Lib.hid hln
          clear hcut hd hln H0
          have HSO : Hid (w.heap.size ≤ rb) := Lib.hid (HD.out.base.blk _ (List.mem_cons_of_mem _ (List.mem_cons_of_mem _ (List.mem_cons_self ..)))).2.2
          cases hik : isK y.kind with
          | false =>
            have HE : Hid (decC s = none) := Lib.hid (decC_no HRC.out (.inr (.inl hik)))
            have HIK := Lib.hid hik
            clear hik
            go_wp2_with (refine wpList_loadRow (T := 29) (b := br) (cs := (cmc y (.slice a1 y.ifs.length c1) (.slice a2 y.thens.length c2) (.slice a3 y.elses.length c3)).toArray) rfl (.tmp 6) rfl rfl Try.sCmd HD.out.cmd ?_)
            refine (of_none y a1 a2 a3 c1 c2 c3 _ HIK.out).mono ?_
            rintro e X1 ⟨rfl, kx⟩
            have HX := Lib.hid (HD.out.quiet kx)
            clear kx
            go_upto_region 39 with fail
            obtain ⟨U0, hU0⟩ : ∃ U0, U0 = X1.alloc (.cells rqZ 35) := ⟨_, rfl⟩
            have HY : Hid (Blk U0 rb 35 rqZ ∧ Step [] [] w U0) := by
              have q1 := HX.out.blk (List.mem_cons_of_mem _ (List.mem_cons_self ..))
              rw [hU0]
              exact ⟨q1.alloc _, HX.out.out.alloc _⟩
            rw [← hU0]
            clear hU0
            go_wp2_with (refine wpList_storeRow (T := 35) (b := rb) (cs := rqZ) (vs := rqZ) rfl (.tmp 2) (.tmp 175) rfl rfl rfl Try.sReq HY.out.1 rfl rqZ_one ?_; intro U ub uk)
            exact bodyPost_ret (res_row2 rfl _ rfl Try.sReq ub) rfl ⟨.inr ⟨HE.out, rfl⟩, HY.out.2.own uk HSO.out⟩
          | true =>
            have HIK := Lib.hid hik
            clear hik
            go_wp2_with (refine wpList_loadRow (T := 29) (b := br) (cs := (cmc y (.slice a1 y.ifs.length c1) (.slice a2 y.thens.length c2) (.slice a3 y.elses.length c3)).toArray) rfl (.tmp 6) rfl rfl Try.sCmd HD.out.cmd ?_)
            refine (of_any y a1 a2 a3 c1 c2 c3 _ HIK.out HD.out.rdc HLN.out).mono ?_
            rintro e X1 ⟨v, rfl, hq, kx⟩
            have HX := Lib.hid (HD.out.quiet kx)
            have HQ := Lib.hid hq
            obtain ⟨f1, g1, f2, g2, f3, g3, hv, hvr⟩ := hq.at_
            obtain ⟨B0, hB0⟩ : ∃ B, B = bodyV (cleanC y) (.slice f1 (cleanC y).ifs.length g1) (.slice f2 (cleanC y).thens.length g2) (.slice f3 (cleanC y).elses.length g3) := ⟨_, rfl⟩
            obtain ⟨BT, BV, hBI⟩ : ∃ T V, B0 = .iface T V := by rw [hB0]; exact bodyV_iface _ _ _ _
            rw [← hB0, hBI] at hv
            subst hv
            clear kx hB0 hvr hq hBI
            have HVS : Hid ((#[.int .i64 (cleanC y).client, .int .i64 (cleanC y).seq, Str (cleanC y).token, .iface BT BV] : Array Value).all (·.oneCell') = true) := Lib.hid (by simp [Value.oneCell'])
            go_upto_region 39 with fail
            obtain ⟨U0, hU0⟩ : ∃ U0, U0 = X1.alloc (.cells #[.int .i64 (cleanC y).client, .int .i64 (cleanC y).seq, Str (cleanC y).token, .iface BT BV] 35) := ⟨_, rfl⟩
            have HY : Hid (Dk w U0 [(pp, 111, ptrC p), (rb, 35, rqZ)] p br sf y a1 a2 a3 c1 c2 c3 ∧ Blk U0 X1.heap.size 35 #[.int .i64 (cleanC y).client, .int .i64 (cleanC y).seq, Str (cleanC y).token, .iface BT BV] ∧ IsReq U0 (cleanC y) (rqV (cleanC y) (.iface BT BV)) ∧ w.heap.size ≤ X1.heap.size) := by
              have ks : Step [] [] X1 U0 := by rw [hU0]; exact (Step.refl [] X1).alloc _
              exact ⟨HX.out.quiet ks, by rw [hU0]; exact Blk.new _ _ _, HQ.out.step ks, HX.out.out.size⟩
            first | rw [← hU0] | rw [show X1.alloc (.cells #[.int .i64 (cleanC y).client, .int .i64 (cleanC y).seq, .string ⟨(cleanC y).token.toArray⟩, .iface BT BV] 35) = U0 from hU0.symm]
            clear hU0 HQ HX
            obtain ⟨tb, htb⟩ : ∃ tb, tb = X1.heap.size := ⟨_, rfl⟩
            rw [← htb] at HY
            first | rw [← htb] | skip
            have HY1 := Lib.hid HY.out.1
            have HY2 := Lib.hid HY.out.2
            clear HY
            clear htb
            have pc := (HY1.out.blk (List.mem_cons_self ..)).cell 0
            have pl := (HY1.out.blk (List.mem_cons_self ..)).lt
            simp only [ptrC, List.getElem?_toArray, List.getElem?_cons_zero] at pc
            go_wp2_with fail
            refine (dk_end HY1.out).mono ?_
            rintro e W9 ⟨rfl, rfl⟩
            clear pc pl
            by_cases hz : rend sf = 0
            · have hzb : (rend sf != 0) = false := by simp [hz]
              have HZ := Lib.hid hz
              clear hz
              obtain ⟨⟨m0, m1, m2, m3, m4, m5, m6, m7, m8, m9, m10, m11, m12, m13, m14, m15, m16, m17⟩, ml, mf0, mf1, mf2, mf3, mf4, mf5, mf6, mf7, mf8, mf9, mf10, mf11, mf12, mf13, mf14, mf15, mf16, mf17⟩ := Blk.all18 (HY1.out.cmd)
              try dsimp only at m0 m1 m2 m3 m4 m5 m6 m7 m8 m9 m10 m11 m12 m13 m14 m15 m16 m17
              go_wp2_with fail
              refine (ids_any y.client y.seq _).mono ?_
              rintro e W9 ⟨rfl, rfl⟩
              clear m0 m1 m2 m3 m4 m5 m6 m7 m8 m9 m10 m11 m12 m13 m14 m15 m16 m17 ml mf0 mf1 mf2 mf3 mf4 mf5 mf6 mf7 mf8 mf9 mf10 mf11 mf12 mf13 mf14 mf15 mf16 mf17
              cases hid : okIds y.client y.seq with
              | false =>
                have HE : Hid (decC s = none) := Lib.hid (decC_no HRC.out (.inr (.inr (.inr hid))))
                clear hid
                go_wp2_with (refine wpList_storeRow (T := 35) (b := rb) (cs := rqZ) (vs := rqZ) rfl (.tmp 2) (.tmp 175) rfl rfl rfl Try.sReq (HY1.out.blk (List.mem_cons_of_mem _ (List.mem_cons_self ..))) rfl rqZ_one ?_; intro U ub uk)
                exact bodyPost_ret (res_row2 rfl _ rfl Try.sReq ub) rfl ⟨.inr ⟨HE.out, rfl⟩, HY1.out.out.own uk HSO.out⟩
              | true =>
                have HE : Hid (decC s = some (cleanC y)) := Lib.hid (decC_of HRC.out HLS.out HIK.out HZ.out hid)
                clear hid
                go_wp2_with (first | (refine wpList_loadRow (T := 35) (b := tb) (cs := #[.int .i64 (cleanC y).client, .int .i64 (cleanC y).seq, Str (cleanC y).token, .iface BT BV]) rfl (.tmp 7) rfl rfl Try.sReq HY2.out.1 ?_) | (refine wpList_storeRow (T := 35) (b := rb) (cs := rqZ) (vs := #[.int .i64 (cleanC y).client, .int .i64 (cleanC y).seq, Str (cleanC y).token, .iface BT BV]) rfl (.tmp 2) (.tmp 176) rfl rfl rfl Try.sReq (HY1.out.blk (List.mem_cons_of_mem _ (List.mem_cons_self ..))) rfl HVS.out ?_; intro U ub uk))
                skip
                exact bodyPost_ret (res_row2 rfl _ rfl Try.sReq ub) rfl ⟨.inl ⟨_, _, HE.out, rfl, isreq_own HY2.out.2.1 (HY1.out.blk (List.mem_cons_of_mem _ (List.mem_cons_self ..))) uk⟩, HY1.out.out.own uk HSO.out⟩
            · have hzb : (rend sf != 0) = true := by simp [hz]
              have HE : Hid (decC s = none) := Lib.hid (decC_no HRC.out (.inr (.inr (.inl hz))))
              clear hz
              go_wp2_with (refine wpList_storeRow (T := 35) (b := rb) (cs := rqZ) (vs := rqZ) rfl (.tmp 2) (.tmp 175) rfl rfl rfl Try.sReq (HY1.out.blk (List.mem_cons_of_mem _ (List.mem_cons_self ..))) rfl rqZ_one ?_; intro U ub uk)
              exact bodyPost_ret (res_row2 rfl _ rfl Try.sReq ub) rfl ⟨.inr ⟨HE.out, rfl⟩, HY1.out.out.own uk HSO.out⟩
end Go.Proofs.Ytifjnpdnnfdcoaa
