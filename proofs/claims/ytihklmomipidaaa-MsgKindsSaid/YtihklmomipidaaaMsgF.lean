/-
  Encode: a message's bytes. Condition: at most 2^40 entries and bytes.
-/
import Derived.Test.YtihklmomipidaaaMsgE
import Derived.Deep.DeepCutAuto
import Derived.Deep.CutBlock
namespace Go.Proofs.Ytihklmomipidaaa
open Go.RowKit
set_option linter.unusedSimpArgs false
set_option linter.unusedVariables false
set_option maxRecDepth 100000

def encW (x : Rw) : WS := (msgIts x).foldl wone ⟨[], 0⟩
def encL (x : Rw) : List UInt8 × Int := if rightR x = true then wbytes (encW x) else ([], 1)
theorem wone_n (st : WS) (n : Int) : wone st (nIt n) = wnum st n := by simp [wone, nIt]
theorem wone_t (st : WS) (s : List UInt8) : wone st (tIt s) = wtext st s := by simp [wone, tIt]
theorem wone_f (st : WS) (b : Bool) : wone st (fIt b) = wflag st b := by simp [wone, fIt]
def encEs (st : WS) (l : List Ent) : WS := l.foldl (fun st e => wtext (wnum st e.term) e.data) st
theorem encEs_take (st : WS) (l : List Ent) (k : Nat) (e : Ent) (h : l[k]? = some e) : encEs st (l.take (k + 1)) = wtext (wnum (encEs st (l.take k)) e.term) e.data := by
  simp [encEs, List.take_add_one, h]
theorem encEs_its (st : WS) (l : List Ent) : (entIts l).foldl wone st = encEs st l := by
  induction l generalizing st with
  | nil => rfl
  | cons e l ih =>
    simp only [entIts, List.flatMap_cons, List.foldl_append, List.foldl_cons, List.foldl_nil, encEs, wone_n, wone_t] at ih ⊢
    exact ih _
theorem right_small {x : Rw} (h : rightR x = true) : (0 ≤ x.src ∧ x.src ≤ 1099511627776) ∧ (0 ≤ x.term ∧ x.term ≤ 1099511627776) ∧ (0 ≤ x.index ∧ x.index ≤ 1099511627776) ∧ (0 ≤ x.last ∧ x.last ≤ 1099511627776) ∧ (0 ≤ x.commit ∧ x.commit ≤ 1099511627776) ∧ (0 ≤ x.round ∧ x.round ≤ 1099511627776) ∧ x.data.length ≤ 1048576 ∧ x.es.length ≤ 8 ∧ ∀ e ∈ x.es, (0 ≤ e.term ∧ e.term ≤ 1099511627776) ∧ e.data.length ≤ 8192 := by
  simp only [rightR, Bool.and_eq_true, okN_iff, decide_eq_true_eq] at h
  obtain ⟨⟨⟨⟨⟨⟨⟨⟨h1, h2⟩, h3⟩, h4⟩, h5⟩, h6⟩, h7⟩, h8⟩, h9⟩ := h
  refine ⟨h1, h2, h3, h4, h5, h6, h7, h8, fun e he => ?_⟩
  obtain ⟨i, hi⟩ := List.getElem?_of_mem he
  have := (esOk_iff _ _).1 h9 i e hi
  simp only [entOk, Bool.and_eq_true, okN_iff, decide_eq_true_eq] at this
  exact ⟨this.1.2, this.2⟩

set_option maxHeartbeats 4000000 in
theorem encode1_any {w : World} {x : Rw} {v : Value} (h : IsMsg w x v) (hk : x.kind = 1) (hd : x.data.length ≤ 1099511627776) : Calls Try.prog 13 #[v] w fun e w' => e = .returned (.tuple #[Str (encL x).1, .int .i64 (encL x).2]) ∧ Step [] [] w w' := by
  have HM := Lib.hid h
  have HK := Lib.hid hk
  have k1 : (x.kind == 1) = true := by rw [hk]; rfl
  have k2 : (x.kind == 2) = false := by rw [hk]; rfl
  have k3 : (x.kind == 3) = false := by rw [hk]; rfl
  have k4 : (x.kind == 4) = false := by rw [hk]; rfl
  have k5 : (x.kind == 5) = false := by rw [hk]; rfl
  have hkb : x.kind < 9223372036854775808 := by omega
  obtain ⟨T, u, F, rfl, hF⟩ := h.flat
  have HF := Lib.hid hF
  have m1 := hF.method
  have m2 := hF.ahead
  have m3 := hF.enter
  clear h hF hk
  go_enter Try.func13, Try.ntmps13
  go_wp2_with fail
  refine (msgRight_any HM.out hd).mono ?_
  rintro e w1 ⟨rfl, q1⟩
  have HQ := Lib.hid q1
  clear q1
  cases hr : rightR x with
  | false =>
    have HE : Hid (encL x = ([], 1)) := Lib.hid (by simp [encL, hr])
    clear hr
    go_wp2_with fail
    exact bodyPost_ret (results_tmp2 rfl _ _ _) rfl ⟨by rw [HE.out]; rfl, HQ.out⟩
  | true =>
    have HRT := Lib.hid hr
    clear hr
    obtain ⟨b1, b2, b3, b4, b5, b6, b7, b8, b9⟩ := right_small HRT.out
    have HB9 := Lib.hid b9
    clear b9
    go_wp2_with fail
    refine (HF.out.call w1 HQ.out).mono ?_
    rintro e w2 ⟨a, cap, rfl, r2, q2⟩
    have H1 : Hid (Rd w2 3 a x.es.length (entcs x.es) ∧ Step [] [] w w2) := ⟨r2, HQ.out.trans q2⟩
    clear r2 q2 m1 m2 m3
    go_upto_region 6 with fail
    have H2 := Lib.hid (Enc.new w2 x (.slice a x.es.length cap))
    obtain ⟨br, hbr⟩ : ∃ br, br = w2.heap.size := ⟨_, rfl⟩
    obtain ⟨V1, hV1⟩ : ∃ V1, V1 = ((w2.alloc (.cells #[.int .i64 x.kind, .int .i64 x.src, .int .i64 x.term, .int .i64 x.index, .int .i64 x.last, .int .i64 x.commit, .int .i64 x.round, .bool x.yes, .slice a x.es.length cap, .string ⟨x.data.toArray⟩] 24)).alloc (.cells #[.slice none 0 0, .int .i64 0] 66)).alloc (.cells #[.pointer (some ⟨br + 1, 0, none⟩)] 63) := ⟨_, rfl⟩
    replace H2 : Hid (Enc w2 V1 br x (.slice a x.es.length cap) (br + 1 + 1) (br + 1) ⟨[], 0⟩) := Lib.hid (by rw [hV1, hbr]; exact H2.out)
    rw [← hbr, ← hV1]
    clear hbr hV1
    have rc := H2.out.raw.rw
    have rl := H2.out.raw.lt
    have pc := H2.out.ptr
    go_wp2_with fail
    refine (enc_nums H2.out [x.kind, x.src, x.term] (by intro n hn; simp at hn; omega) (by simp)).mono ?_
    rintro e V2 ⟨rfl, t2⟩
    have H3 := Lib.hid t2
    clear t2 rc rl pc
    have rc := H3.out.raw.rw
    have rl := H3.out.raw.lt
    have pc := H3.out.ptr
    go_wp2_with fail
    refine (enc_nums H3.out [x.index, x.last] (by intro n hn; simp at hn; omega) (by simp)).mono ?_
    rintro e V3 ⟨rfl, t3⟩
    have H4 := Lib.hid t3
    clear t3 rc rl pc
    have rc := H4.out.raw.rw
    have rl := H4.out.raw.lt
    have pc := H4.out.ptr
    go_wp2_with fail
    refine (enc_bytes H4.out).mono ?_
    rintro e V4 ⟨rfl, t4⟩
    have HE : Hid (encL x = wbytes (encW x)) := Lib.hid (by simp [encL, HRT.out])
    have HW : Hid (encW x = List.foldl wnum (List.foldl wnum ⟨[], 0⟩ [x.kind, x.src, x.term]) [x.index, x.last]) := Lib.hid (by simp [encW, msgIts, HK.out, wone_n, wone_t, wone_f, encEs_its])
    have HZ := Lib.hid (H1.out.2.trans t4)
    clear t4 rc rl pc
    rw [← HW.out, ← HE.out]
    go_wp2_with fail
    exact bodyPost_ret (results_tmp2 rfl _ _ _) rfl ⟨rfl, HZ.out⟩

set_option maxHeartbeats 4000000 in
theorem encode2_any {w : World} {x : Rw} {v : Value} (h : IsMsg w x v) (hk : x.kind = 2) (hd : x.data.length ≤ 1099511627776) : Calls Try.prog 13 #[v] w fun e w' => e = .returned (.tuple #[Str (encL x).1, .int .i64 (encL x).2]) ∧ Step [] [] w w' := by
  have HM := Lib.hid h
  have HK := Lib.hid hk
  have k1 : (x.kind == 1) = false := by rw [hk]; rfl
  have k2 : (x.kind == 2) = true := by rw [hk]; rfl
  have k3 : (x.kind == 3) = false := by rw [hk]; rfl
  have k4 : (x.kind == 4) = false := by rw [hk]; rfl
  have k5 : (x.kind == 5) = false := by rw [hk]; rfl
  have hkb : x.kind < 9223372036854775808 := by omega
  obtain ⟨T, u, F, rfl, hF⟩ := h.flat
  have HF := Lib.hid hF
  have m1 := hF.method
  have m2 := hF.ahead
  have m3 := hF.enter
  clear h hF hk
  go_enter Try.func13, Try.ntmps13
  go_wp2_with fail
  refine (msgRight_any HM.out hd).mono ?_
  rintro e w1 ⟨rfl, q1⟩
  have HQ := Lib.hid q1
  clear q1
  cases hr : rightR x with
  | false =>
    have HE : Hid (encL x = ([], 1)) := Lib.hid (by simp [encL, hr])
    clear hr
    go_wp2_with fail
    exact bodyPost_ret (results_tmp2 rfl _ _ _) rfl ⟨by rw [HE.out]; rfl, HQ.out⟩
  | true =>
    have HRT := Lib.hid hr
    clear hr
    obtain ⟨b1, b2, b3, b4, b5, b6, b7, b8, b9⟩ := right_small HRT.out
    have HB9 := Lib.hid b9
    clear b9
    go_wp2_with fail
    refine (HF.out.call w1 HQ.out).mono ?_
    rintro e w2 ⟨a, cap, rfl, r2, q2⟩
    have H1 : Hid (Rd w2 3 a x.es.length (entcs x.es) ∧ Step [] [] w w2) := ⟨r2, HQ.out.trans q2⟩
    clear r2 q2 m1 m2 m3
    go_upto_region 6 with fail
    have H2 := Lib.hid (Enc.new w2 x (.slice a x.es.length cap))
    obtain ⟨br, hbr⟩ : ∃ br, br = w2.heap.size := ⟨_, rfl⟩
    obtain ⟨V1, hV1⟩ : ∃ V1, V1 = ((w2.alloc (.cells #[.int .i64 x.kind, .int .i64 x.src, .int .i64 x.term, .int .i64 x.index, .int .i64 x.last, .int .i64 x.commit, .int .i64 x.round, .bool x.yes, .slice a x.es.length cap, .string ⟨x.data.toArray⟩] 24)).alloc (.cells #[.slice none 0 0, .int .i64 0] 66)).alloc (.cells #[.pointer (some ⟨br + 1, 0, none⟩)] 63) := ⟨_, rfl⟩
    replace H2 : Hid (Enc w2 V1 br x (.slice a x.es.length cap) (br + 1 + 1) (br + 1) ⟨[], 0⟩) := Lib.hid (by rw [hV1, hbr]; exact H2.out)
    rw [← hbr, ← hV1]
    clear hbr hV1
    have rc := H2.out.raw.rw
    have rl := H2.out.raw.lt
    have pc := H2.out.ptr
    go_wp2_with fail
    refine (enc_nums H2.out [x.kind, x.src, x.term] (by intro n hn; simp at hn; omega) (by simp)).mono ?_
    rintro e V2 ⟨rfl, t2⟩
    have H3 := Lib.hid t2
    clear t2 rc rl pc
    have rc := H3.out.raw.rw
    have rl := H3.out.raw.lt
    have pc := H3.out.ptr
    go_wp2_with fail
    refine (enc_flag H3.out x.yes).mono ?_
    rintro e V3 ⟨rfl, t3⟩
    have H4 := Lib.hid t3
    clear t3 rc rl pc
    have rc := H4.out.raw.rw
    have rl := H4.out.raw.lt
    have pc := H4.out.ptr
    go_wp2_with fail
    refine (enc_bytes H4.out).mono ?_
    rintro e V4 ⟨rfl, t4⟩
    have HE : Hid (encL x = wbytes (encW x)) := Lib.hid (by simp [encL, HRT.out])
    have HW : Hid (encW x = wflag (List.foldl wnum ⟨[], 0⟩ [x.kind, x.src, x.term]) x.yes) := Lib.hid (by simp [encW, msgIts, HK.out, wone_n, wone_t, wone_f, encEs_its])
    have HZ := Lib.hid (H1.out.2.trans t4)
    clear t4 rc rl pc
    rw [← HW.out, ← HE.out]
    go_wp2_with fail
    exact bodyPost_ret (results_tmp2 rfl _ _ _) rfl ⟨rfl, HZ.out⟩

set_option maxHeartbeats 4000000 in
theorem encode4_any {w : World} {x : Rw} {v : Value} (h : IsMsg w x v) (hk : x.kind = 4) (hd : x.data.length ≤ 1099511627776) : Calls Try.prog 13 #[v] w fun e w' => e = .returned (.tuple #[Str (encL x).1, .int .i64 (encL x).2]) ∧ Step [] [] w w' := by
  have HM := Lib.hid h
  have HK := Lib.hid hk
  have k1 : (x.kind == 1) = false := by rw [hk]; rfl
  have k2 : (x.kind == 2) = false := by rw [hk]; rfl
  have k3 : (x.kind == 3) = false := by rw [hk]; rfl
  have k4 : (x.kind == 4) = true := by rw [hk]; rfl
  have k5 : (x.kind == 5) = false := by rw [hk]; rfl
  have hkb : x.kind < 9223372036854775808 := by omega
  obtain ⟨T, u, F, rfl, hF⟩ := h.flat
  have HF := Lib.hid hF
  have m1 := hF.method
  have m2 := hF.ahead
  have m3 := hF.enter
  clear h hF hk
  go_enter Try.func13, Try.ntmps13
  go_wp2_with fail
  refine (msgRight_any HM.out hd).mono ?_
  rintro e w1 ⟨rfl, q1⟩
  have HQ := Lib.hid q1
  clear q1
  cases hr : rightR x with
  | false =>
    have HE : Hid (encL x = ([], 1)) := Lib.hid (by simp [encL, hr])
    clear hr
    go_wp2_with fail
    exact bodyPost_ret (results_tmp2 rfl _ _ _) rfl ⟨by rw [HE.out]; rfl, HQ.out⟩
  | true =>
    have HRT := Lib.hid hr
    clear hr
    obtain ⟨b1, b2, b3, b4, b5, b6, b7, b8, b9⟩ := right_small HRT.out
    have HB9 := Lib.hid b9
    clear b9
    go_wp2_with fail
    refine (HF.out.call w1 HQ.out).mono ?_
    rintro e w2 ⟨a, cap, rfl, r2, q2⟩
    have H1 : Hid (Rd w2 3 a x.es.length (entcs x.es) ∧ Step [] [] w w2) := ⟨r2, HQ.out.trans q2⟩
    clear r2 q2 m1 m2 m3
    go_upto_region 6 with fail
    have H2 := Lib.hid (Enc.new w2 x (.slice a x.es.length cap))
    obtain ⟨br, hbr⟩ : ∃ br, br = w2.heap.size := ⟨_, rfl⟩
    obtain ⟨V1, hV1⟩ : ∃ V1, V1 = ((w2.alloc (.cells #[.int .i64 x.kind, .int .i64 x.src, .int .i64 x.term, .int .i64 x.index, .int .i64 x.last, .int .i64 x.commit, .int .i64 x.round, .bool x.yes, .slice a x.es.length cap, .string ⟨x.data.toArray⟩] 24)).alloc (.cells #[.slice none 0 0, .int .i64 0] 66)).alloc (.cells #[.pointer (some ⟨br + 1, 0, none⟩)] 63) := ⟨_, rfl⟩
    replace H2 : Hid (Enc w2 V1 br x (.slice a x.es.length cap) (br + 1 + 1) (br + 1) ⟨[], 0⟩) := Lib.hid (by rw [hV1, hbr]; exact H2.out)
    rw [← hbr, ← hV1]
    clear hbr hV1
    have rc := H2.out.raw.rw
    have rl := H2.out.raw.lt
    have pc := H2.out.ptr
    go_wp2_with fail
    refine (enc_nums H2.out [x.kind, x.src, x.term] (by intro n hn; simp at hn; omega) (by simp)).mono ?_
    rintro e V2 ⟨rfl, t2⟩
    have H3 := Lib.hid t2
    clear t2 rc rl pc
    have rc := H3.out.raw.rw
    have rl := H3.out.raw.lt
    have pc := H3.out.ptr
    go_wp2_with fail
    refine (enc_nums H3.out [x.index, x.round] (by intro n hn; simp at hn; omega) (by simp)).mono ?_
    rintro e V3 ⟨rfl, t3⟩
    have H4 := Lib.hid t3
    clear t3 rc rl pc
    have rc := H4.out.raw.rw
    have rl := H4.out.raw.lt
    have pc := H4.out.ptr
    go_wp2_with fail
    refine (enc_flag H4.out x.yes).mono ?_
    rintro e V4 ⟨rfl, t4⟩
    have H5 := Lib.hid t4
    clear t4 rc rl pc
    have rc := H5.out.raw.rw
    have rl := H5.out.raw.lt
    have pc := H5.out.ptr
    go_wp2_with fail
    refine (enc_bytes H5.out).mono ?_
    rintro e V5 ⟨rfl, t5⟩
    have HE : Hid (encL x = wbytes (encW x)) := Lib.hid (by simp [encL, HRT.out])
    have HW : Hid (encW x = wflag (List.foldl wnum (List.foldl wnum ⟨[], 0⟩ [x.kind, x.src, x.term]) [x.index, x.round]) x.yes) := Lib.hid (by simp [encW, msgIts, HK.out, wone_n, wone_t, wone_f, encEs_its])
    have HZ := Lib.hid (H1.out.2.trans t5)
    clear t5 rc rl pc
    rw [← HW.out, ← HE.out]
    go_wp2_with fail
    exact bodyPost_ret (results_tmp2 rfl _ _ _) rfl ⟨rfl, HZ.out⟩

set_option maxHeartbeats 4000000 in
theorem encode5_any {w : World} {x : Rw} {v : Value} (h : IsMsg w x v) (hk : x.kind = 5) (hd : x.data.length ≤ 1099511627776) : Calls Try.prog 13 #[v] w fun e w' => e = .returned (.tuple #[Str (encL x).1, .int .i64 (encL x).2]) ∧ Step [] [] w w' := by
  have HM := Lib.hid h
  have HK := Lib.hid hk
  have k1 : (x.kind == 1) = false := by rw [hk]; rfl
  have k2 : (x.kind == 2) = false := by rw [hk]; rfl
  have k3 : (x.kind == 3) = false := by rw [hk]; rfl
  have k4 : (x.kind == 4) = false := by rw [hk]; rfl
  have k5 : (x.kind == 5) = true := by rw [hk]; rfl
  have hkb : x.kind < 9223372036854775808 := by omega
  obtain ⟨T, u, F, rfl, hF⟩ := h.flat
  have HF := Lib.hid hF
  have m1 := hF.method
  have m2 := hF.ahead
  have m3 := hF.enter
  clear h hF hk
  go_enter Try.func13, Try.ntmps13
  go_wp2_with fail
  refine (msgRight_any HM.out hd).mono ?_
  rintro e w1 ⟨rfl, q1⟩
  have HQ := Lib.hid q1
  clear q1
  cases hr : rightR x with
  | false =>
    have HE : Hid (encL x = ([], 1)) := Lib.hid (by simp [encL, hr])
    clear hr
    go_wp2_with fail
    exact bodyPost_ret (results_tmp2 rfl _ _ _) rfl ⟨by rw [HE.out]; rfl, HQ.out⟩
  | true =>
    have HRT := Lib.hid hr
    clear hr
    obtain ⟨b1, b2, b3, b4, b5, b6, b7, b8, b9⟩ := right_small HRT.out
    have HB9 := Lib.hid b9
    clear b9
    go_wp2_with fail
    refine (HF.out.call w1 HQ.out).mono ?_
    rintro e w2 ⟨a, cap, rfl, r2, q2⟩
    have H1 : Hid (Rd w2 3 a x.es.length (entcs x.es) ∧ Step [] [] w w2) := ⟨r2, HQ.out.trans q2⟩
    clear r2 q2 m1 m2 m3
    go_upto_region 6 with fail
    have H2 := Lib.hid (Enc.new w2 x (.slice a x.es.length cap))
    obtain ⟨br, hbr⟩ : ∃ br, br = w2.heap.size := ⟨_, rfl⟩
    obtain ⟨V1, hV1⟩ : ∃ V1, V1 = ((w2.alloc (.cells #[.int .i64 x.kind, .int .i64 x.src, .int .i64 x.term, .int .i64 x.index, .int .i64 x.last, .int .i64 x.commit, .int .i64 x.round, .bool x.yes, .slice a x.es.length cap, .string ⟨x.data.toArray⟩] 24)).alloc (.cells #[.slice none 0 0, .int .i64 0] 66)).alloc (.cells #[.pointer (some ⟨br + 1, 0, none⟩)] 63) := ⟨_, rfl⟩
    replace H2 : Hid (Enc w2 V1 br x (.slice a x.es.length cap) (br + 1 + 1) (br + 1) ⟨[], 0⟩) := Lib.hid (by rw [hV1, hbr]; exact H2.out)
    rw [← hbr, ← hV1]
    clear hbr hV1
    have rc := H2.out.raw.rw
    have rl := H2.out.raw.lt
    have pc := H2.out.ptr
    go_wp2_with fail
    refine (enc_nums H2.out [x.kind, x.src, x.term] (by intro n hn; simp at hn; omega) (by simp)).mono ?_
    rintro e V2 ⟨rfl, t2⟩
    have H3 := Lib.hid t2
    clear t2 rc rl pc
    have rc := H3.out.raw.rw
    have rl := H3.out.raw.lt
    have pc := H3.out.ptr
    go_wp2_with fail
    refine (enc_nums H3.out [x.index, x.last, x.round] (by intro n hn; simp at hn; omega) (by simp)).mono ?_
    rintro e V3 ⟨rfl, t3⟩
    have H4 := Lib.hid t3
    clear t3 rc rl pc
    have rc := H4.out.raw.rw
    have rl := H4.out.raw.lt
    have pc := H4.out.ptr
    go_wp2_with fail
    refine (enc_text H4.out x.data (by omega)).mono ?_
    rintro e V4 ⟨rfl, t4⟩
    have H5 := Lib.hid t4
    clear t4 rc rl pc
    have rc := H5.out.raw.rw
    have rl := H5.out.raw.lt
    have pc := H5.out.ptr
    go_wp2_with fail
    refine (enc_bytes H5.out).mono ?_
    rintro e V5 ⟨rfl, t5⟩
    have HE : Hid (encL x = wbytes (encW x)) := Lib.hid (by simp [encL, HRT.out])
    have HW : Hid (encW x = wtext (List.foldl wnum (List.foldl wnum ⟨[], 0⟩ [x.kind, x.src, x.term]) [x.index, x.last, x.round]) x.data) := Lib.hid (by simp [encW, msgIts, HK.out, wone_n, wone_t, wone_f, encEs_its])
    have HZ := Lib.hid (H1.out.2.trans t5)
    clear t5 rc rl pc
    rw [← HW.out, ← HE.out]
    go_wp2_with fail
    exact bodyPost_ret (results_tmp2 rfl _ _ _) rfl ⟨rfl, HZ.out⟩

set_option maxHeartbeats 4000000 in
theorem encode3_any {w : World} {x : Rw} {v : Value} (h : IsMsg w x v) (hk : x.kind = 3) (hd : x.data.length ≤ 1099511627776) : Calls Try.prog 13 #[v] w fun e w' => e = .returned (.tuple #[Str (encL x).1, .int .i64 (encL x).2]) ∧ Step [] [] w w' := by
  have HM := Lib.hid h
  have HK := Lib.hid hk
  have k1 : (x.kind == 1) = false := by rw [hk]; rfl
  have k2 : (x.kind == 2) = false := by rw [hk]; rfl
  have k3 : (x.kind == 3) = true := by rw [hk]; rfl
  have k4 : (x.kind == 4) = false := by rw [hk]; rfl
  have k5 : (x.kind == 5) = false := by rw [hk]; rfl
  have hkb : x.kind < 9223372036854775808 := by omega
  obtain ⟨T, u, F, rfl, hF⟩ := h.flat
  have HF := Lib.hid hF
  have m1 := hF.method
  have m2 := hF.ahead
  have m3 := hF.enter
  clear h hF hk
  go_enter Try.func13, Try.ntmps13
  go_wp2_with fail
  refine (msgRight_any HM.out hd).mono ?_
  rintro e w1 ⟨rfl, q1⟩
  have HQ := Lib.hid q1
  clear q1
  cases hr : rightR x with
  | false =>
    have HE : Hid (encL x = ([], 1)) := Lib.hid (by simp [encL, hr])
    clear hr
    go_wp2_with fail
    exact bodyPost_ret (results_tmp2 rfl _ _ _) rfl ⟨by rw [HE.out]; rfl, HQ.out⟩
  | true =>
    have HRT := Lib.hid hr
    clear hr
    obtain ⟨b1, b2, b3, b4, b5, b6, b7, b8, b9⟩ := right_small HRT.out
    have HB9 := Lib.hid b9
    clear b9
    go_wp2_with fail
    refine (HF.out.call w1 HQ.out).mono ?_
    rintro e w2 ⟨a, cap, rfl, r2, q2⟩
    have H1 : Hid (Rd w2 3 a x.es.length (entcs x.es) ∧ Step [] [] w w2) := ⟨r2, HQ.out.trans q2⟩
    clear r2 q2 m1 m2 m3
    go_upto_region 6 with fail
    have H2 := Lib.hid (Enc.new w2 x (.slice a x.es.length cap))
    obtain ⟨br, hbr⟩ : ∃ br, br = w2.heap.size := ⟨_, rfl⟩
    obtain ⟨V1, hV1⟩ : ∃ V1, V1 = ((w2.alloc (.cells #[.int .i64 x.kind, .int .i64 x.src, .int .i64 x.term, .int .i64 x.index, .int .i64 x.last, .int .i64 x.commit, .int .i64 x.round, .bool x.yes, .slice a x.es.length cap, .string ⟨x.data.toArray⟩] 24)).alloc (.cells #[.slice none 0 0, .int .i64 0] 66)).alloc (.cells #[.pointer (some ⟨br + 1, 0, none⟩)] 63) := ⟨_, rfl⟩
    replace H2 : Hid (Enc w2 V1 br x (.slice a x.es.length cap) (br + 1 + 1) (br + 1) ⟨[], 0⟩) := Lib.hid (by rw [hV1, hbr]; exact H2.out)
    rw [← hbr, ← hV1]
    clear hbr hV1
    have rc := H2.out.raw.rw
    have rl := H2.out.raw.lt
    have pc := H2.out.ptr
    go_wp2_with fail
    refine (enc_nums H2.out [x.kind, x.src, x.term] (by intro n hn; simp at hn; omega) (by simp)).mono ?_
    rintro e V2 ⟨rfl, t2⟩
    have H3 := Lib.hid t2
    clear t2 rc rl pc
    have rc := H3.out.raw.rw
    have rl := H3.out.raw.lt
    have pc := H3.out.ptr
    go_wp2_with fail
    refine (enc_nums H3.out [x.index, x.last, x.commit, x.round, (x.es.length : Int)] (by intro n hn; simp at hn; omega) (by simp)).mono ?_
    rintro e V3 ⟨rfl, t3⟩
    have H4 := Lib.hid t3
    clear t3 rc rl pc
    have rc := H4.out.raw.rw
    have rl := H4.out.raw.lt
    have pc := H4.out.ptr
    obtain ⟨st0, hst⟩ : ∃ st0, st0 = List.foldl wnum (List.foldl wnum ⟨[], 0⟩ [x.kind, x.src, x.term]) [x.index, x.last, x.commit, x.round, (x.es.length : Int)] := ⟨_, rfl⟩
    replace H4 : Hid (Enc w2 V3 br x (.slice a x.es.length cap) (br + 1 + 1) (br + 1) st0) := Lib.hid (by rw [hst]; exact H4.out)
    have HST := Lib.hid hst
    clear hst
    go_wp2_with fail
    clear rc rl pc
    go_loopw [62] (fun i W => ∃ k : Nat, i = .int .i64 k ∧ k ≤ x.es.length ∧ Hid (Enc w2 W br x (.slice a x.es.length cap) (br + 1 + 1) (br + 1) (encEs st0 (x.es.take k)))) (fun i _ => x.es.length - (intOf i).toNat)
    case atStart => exact ⟨0, rfl, by omega, H4.out⟩
    case round =>
      clear H4 H3 H2
      rename World => W
      obtain ⟨k, rfl, hk, HW⟩ := hrel
      by_cases hlt : k < x.es.length
      · have hlt' : (k : Int) < x.es.length := by omega
        obtain ⟨e, he⟩ : ∃ e, x.es[k]? = some e := ⟨_, List.getElem?_eq_getElem hlt⟩
        have hrd := H1.out.1.step0 HW.out.out
        obtain ⟨g, off, rfl⟩ := hrd.some_ (by omega)
        have ce := rd_ent hrd he
        have gl : g < W.heap.size := by have := World.block_lt_of_cell? _ _ ce.1; simpa using this
        obtain ⟨⟨e1, e2⟩, e3⟩ := HB9.out e (List.mem_of_getElem? he)
        have HEK := Lib.hid he
        clear he hrd
        go_upto_region 17 with fail
        clear ce gl
        obtain ⟨eb, heb⟩ : ∃ eb, eb = W.heap.size := ⟨_, rfl⟩
        obtain ⟨X, hX⟩ : ∃ X, X = W.alloc (.cells #[.int .i64 e.index, .int .i64 e.term, .string ⟨e.data.toArray⟩] 60) := ⟨_, rfl⟩
        have HX : Hid (∃ S, EncS w2 X br x (.slice (some ⟨g, off, none⟩) x.es.length cap) (br + 1 + 1) (br + 1) (encEs st0 (x.es.take k)) S ∧ Blk X eb 60 #[.int .i64 e.index, .int .i64 e.term, Str e.data] ∧ eb ∉ S) := by
          obtain ⟨S, h1, h2, h3, h4, h5, h6⟩ := HW.out
          rw [hX, heb]
          exact ⟨S, ⟨h1.alloc _, h2.alloc _, h3.step ((Step.refl [] W).alloc _) (by simp), h4, h5, h6.alloc _⟩, Blk.new W _ _, fun hg => Nat.lt_irrefl _ (h3.lt _ hg)⟩
        rw [← hX, ← heb]
        clear hX heb
        obtain ⟨S0, hS0⟩ := HX.out
        have HS0 := Lib.hid hS0
        have pc : X.cell? ⟨br + 1 + 1, 0, none⟩ = some (.pointer (some ⟨br + 1, 0, none⟩)) := by rw [hS0.1.2.1.cell]; rfl
        have pl := hS0.1.2.1.lt
        have c1 := hS0.2.1.cell 1
        have cl := hS0.2.1.lt
        simp only [List.getElem?_toArray, List.getElem?_cons_zero, List.getElem?_cons_succ] at c1
        clear hS0 HX
        go_wp2_with fail
        refine (num_any (br + 1) S0 _ e.term (by omega) X HS0.out.1.2.2.1).mono ?_
        rintro e2 Y ⟨rfl, S1, g1, q1⟩
        have HS1 : Hid (Enc w2 Y br x (.slice (some ⟨g, off, none⟩) x.es.length cap) (br + 1 + 1) (br + 1) (wnum (encEs st0 (x.es.take k)) e.term) ∧ Blk Y eb 60 #[.int .i64 e.index, .int .i64 e.term, Str e.data]) := ⟨Enc.of HS0.out.1 g1 q1, HS0.out.2.1.step q1 HS0.out.2.2⟩
        clear pc pl c1 cl g1 q1 HS0
        have pc := HS1.out.1.ptr
        have c2 := HS1.out.2.cell 2
        have cl := HS1.out.2.lt
        simp only [List.getElem?_toArray, List.getElem?_cons_zero, List.getElem?_cons_succ] at c2
        go_wp2_with fail
        refine (enc_text HS1.out.1 e.data (by omega)).mono ?_
        rintro e2 Z ⟨rfl, t2⟩
        have HT : Hid (Enc w2 Z br x (.slice (some ⟨g, off, none⟩) x.es.length cap) (br + 1 + 1) (br + 1) (encEs st0 (x.es.take (k + 1)))) := Lib.hid (by rw [encEs_take _ _ _ _ HEK.out]; exact t2)
        clear t2 pc c2 cl HS1
        go_wp2_with fail
        go_roundw
        case rel => exact ⟨k + 1, by go_num, by omega, HT.out⟩
        case measure => simp [intOf]; omega
      · obtain rfl : k = x.es.length := by omega
        have H4 : Hid (Enc w2 W br x (.slice a x.es.length cap) (br + 1 + 1) (br + 1) (encEs st0 x.es)) := Lib.hid (by have := HW.out; rwa [List.take_length] at this)
        have rc := H4.out.raw.rw
        have rl := H4.out.raw.lt
        have pc := H4.out.ptr
        go_wp2_with fail
        refine (enc_bytes H4.out).mono ?_
        rintro e V4 ⟨rfl, t4⟩
        have HE : Hid (encL x = wbytes (encW x)) := Lib.hid (by simp [encL, HRT.out])
        have HW : Hid (encW x = encEs st0 x.es) := Lib.hid (by simp [encW, msgIts, HK.out, wone_n, wone_t, wone_f, encEs_its, HST.out])
        have HZ := Lib.hid (H1.out.2.trans t4)
        clear t4 rc rl pc
        rw [← HW.out, ← HE.out]
        go_wp2_with fail
        exact bodyPost_ret (results_tmp2 rfl _ _ _) rfl ⟨rfl, HZ.out⟩

theorem encode_any {w : World} {x : Rw} {v : Value} (h : IsMsg w x v) (hd : x.data.length ≤ 1099511627776) : Calls Try.prog 13 #[v] w fun e w' => e = .returned (.tuple #[Str (encL x).1, .int .i64 (encL x).2]) ∧ Step [] [] w w' := by
  rcases kind_cases h.kind with hk | hk | hk | hk | hk
  · exact encode1_any h hk hd
  · exact encode2_any h hk hd
  · exact encode3_any h hk hd
  · exact encode4_any h hk hd
  · exact encode5_any h hk hd
end Go.Proofs.Ytihklmomipidaaa
