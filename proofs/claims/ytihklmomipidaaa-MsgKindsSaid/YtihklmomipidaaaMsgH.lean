/-
  Decode: the message of bytes. Condition: at most 2^40 bytes.
-/
import Derived.Test.YtihklmomipidaaaMsgG
namespace Go.Proofs.Ytihklmomipidaaa
open Go.RowKit
set_option linter.unusedSimpArgs false
set_option linter.unusedVariables false
set_option maxRecDepth 100000

theorem decL_of {s : List UInt8} {r : Rw} {sf : RS} (h : readM ⟨s, false⟩ = (r, sf)) (hk : isKind r.kind = true) (hz : rend sf = 0) : decL s = some r := by
  unfold decL
  rw [h]
  simp only [hk, hz, and_self, if_true]
theorem decL_no {s : List UInt8} {r : Rw} {sf : RS} (h : readM ⟨s, false⟩ = (r, sf)) (hn : isKind r.kind = false ∨ rend sf ≠ 0) : decL s = none := by
  unfold decL
  rw [h]
  rcases hn with hn | hn <;> simp [hn]

set_option maxHeartbeats 8000000 in
theorem decode_any (s : List UInt8) (w : World) (hs : s.length ≤ 1099511627776) : Calls Try.prog 16 #[Str s] w (DecPost s w) := by
  have HS := Lib.hid hs
  clear hs
  go_enter Try.func16, Try.ntmps16
  go_wp2_with fail
  refine (read_any s _).mono ?_
  rintro e w1 ⟨rfl, rfl⟩
  go_upto_region 3 with fail
  obtain ⟨p, hp⟩ : ∃ p, p = w.heap.size := ⟨_, rfl⟩
  obtain ⟨V0, hV0⟩ : ∃ V0, V0 = (w.alloc (.cells #[Str s, .bool false] 89)).alloc (.cells #[.pointer (some ⟨p, 0, none⟩)] 74) := ⟨_, rfl⟩
  obtain ⟨pp, hpp⟩ : ∃ pp, pp = p + 1 := ⟨_, rfl⟩
  have H0 : Hid (Dc0 w V0 pp p ⟨s, false⟩) := Lib.hid (by
    have e1 : (w.alloc (.cells #[Str s, .bool false] 89)).heap.size = w.heap.size + 1 := by simp
    have b2 := Blk.new (w.alloc (.cells #[Str s, .bool false] 89)) 74 #[.pointer (some ⟨w.heap.size, 0, none⟩)]
    rw [e1] at b2
    rw [hV0, hpp, hp]
    exact ⟨b2, (Blk.new w _ _).alloc _, by omega, (((Step.refl [] w).hold _).alloc _), HS.out⟩)
  first
    | rw [← hp, ← hpp, ← hV0]
    | rw [show (w.alloc (.cells #[.string ⟨s.toArray⟩, .bool false] 89)).alloc (.cells #[.pointer (some ⟨w.heap.size, 0, none⟩)] 74) = V0 from by rw [hV0, hp], ← hp, ← hpp]
  clear hV0 hp hpp
  have pc0 := H0.out.1.cell 0
  have pl0 := H0.out.1.lt
  simp only [List.getElem?_toArray, List.getElem?_cons_zero] at pc0
  go_wp2_with fail
  refine (dc0_num H0.out).mono ?_
  rintro e V1 ⟨rfl, t1⟩
  obtain ⟨kk, hkk⟩ : ∃ kk, kk = (up ⟨s, false⟩).1 := ⟨_, rfl⟩
  obtain ⟨sa, hsa⟩ : ∃ sa, sa = (up ⟨s, false⟩).2 := ⟨_, rfl⟩
  rw [← hkk]
  rw [← hsa] at t1
  have H1 := Lib.hid t1
  have HV1 := Lib.hid (And.intro hkk hsa)
  clear t1 hkk hsa pc0 pl0 H0
  have pc1 := H1.out.1.cell 0
  have pl1 := H1.out.1.lt
  simp only [List.getElem?_toArray, List.getElem?_cons_zero] at pc1
  go_wp2_with fail
  refine (dc0_num H1.out).mono ?_
  rintro e V2 ⟨rfl, t2⟩
  obtain ⟨ff, hff⟩ : ∃ ff, ff = (up sa).1 := ⟨_, rfl⟩
  obtain ⟨sb, hsb⟩ : ∃ sb, sb = (up sa).2 := ⟨_, rfl⟩
  rw [← hff]
  rw [← hsb] at t2
  have H2 := Lib.hid t2
  have HV2 := Lib.hid (And.intro hff hsb)
  clear t2 hff hsb pc1 pl1 H1
  have pc2 := H2.out.1.cell 0
  have pl2 := H2.out.1.lt
  simp only [List.getElem?_toArray, List.getElem?_cons_zero] at pc2
  go_wp2_with fail
  refine (dc0_num H2.out).mono ?_
  rintro e V3 ⟨rfl, t3⟩
  obtain ⟨tt, htt⟩ : ∃ tt, tt = (up sb).1 := ⟨_, rfl⟩
  obtain ⟨sc, hsc⟩ : ∃ sc, sc = (up sb).2 := ⟨_, rfl⟩
  rw [← htt]
  rw [← hsc] at t3
  have H3 := Lib.hid t3
  have HV3 := Lib.hid (And.intro htt hsc)
  clear t3 htt hsc pc2 pl2 H2
  go_upto_region 4 with fail
  obtain ⟨br, hbr⟩ : ∃ br, br = V3.heap.size := ⟨_, rfl⟩
  obtain ⟨V4, hV4⟩ : ∃ V4, V4 = V3.alloc (.cells (rwc ⟨kk, ff, tt, 0, 0, 0, 0, false, [], []⟩ (.slice none 0 0)).toArray 24) := ⟨_, rfl⟩
  have H4 : Hid (Dc w V4 pp p br sc ⟨kk, ff, tt, 0, 0, 0, 0, false, [], []⟩ none 0) := Lib.hid (by rw [hV4, hbr]; exact Dc.new H3.out ⟨kk, ff, tt, 0, 0, 0, 0, false, [], []⟩ rfl)
  rw [show V3.alloc (.cells #[.int .i64 kk, .int .i64 ff, .int .i64 tt, .int .i64 0, .int .i64 0, .int .i64 0, .int .i64 0, .bool false, .slice none 0 0, .string ⟨#[]⟩] 24) = V4 from hV4.symm, ← hbr]
  clear hV4 hbr H3
  have HRM : Hid (readM ⟨s, false⟩ = readK kk ff tt sc) := Lib.hid (by unfold readM; rw [← HV1.out.2, ← HV2.out.2, ← HV3.out.2, ← HV1.out.1, ← HV2.out.1, ← HV3.out.1])
  clear HV1 HV2 HV3
  by_cases hk : kk = 1
  · have k1 : (kk == 1) = true := by simp [hk]
    have k2 : (kk == 2) = false := by simp [hk]
    have k3 : (kk == 3) = false := by simp [hk]
    have k4 : (kk == 4) = false := by simp [hk]
    have k5 : (kk == 5) = false := by simp [hk]
    have HK := Lib.hid hk
    clear hk
    have rc := H4.out.2.2.2.2.2.1.rw
    have rl := H4.out.2.2.2.2.2.1.lt
    have rf := H4.out.2.2.2.2.2.1.frozen
    have rf0 := rf 0
    have rf1 := rf 1
    have rf2 := rf 2
    have rf3 := rf 3
    have rf4 := rf 4
    have rf5 := rf 5
    have rf6 := rf 6
    have rf7 := rf 7
    have rf8 := rf 8
    have rf9 := rf 9
    clear rf
    have pc := H4.out.ptr
    go_wp2_with fail
    refine (dc_num H4.out).mono ?_
    rintro e V5 ⟨rfl, t5⟩
    have H5 := Lib.hid t5
    clear t5 pc rc rl rf0 rf1 rf2 rf3 rf4 rf5 rf6 rf7 rf8 rf9
    have pc := H5.out.ptr
    go_wp2_with fail
    refine (dc_num H5.out).mono ?_
    rintro e V6 ⟨rfl, t6⟩
    have H6 := Lib.hid t6
    clear t6 pc
    have pc := H6.out.ptr
    have rc := H6.out.2.2.2.2.2.1.rw
    have rl := H6.out.2.2.2.2.2.1.lt
    have rf := H6.out.2.2.2.2.2.1.frozen
    have rf0 := rf 0
    have rf1 := rf 1
    have rf2 := rf 2
    have rf3 := rf 3
    have rf4 := rf 4
    have rf5 := rf 5
    have rf6 := rf 6
    have rf7 := rf 7
    have rf8 := rf 8
    have rf9 := rf 9
    clear rf
    go_upto_region 20 with fail
    obtain ⟨W, hW⟩ : ∃ W, W = ((V6.setCell ⟨br, 3, none⟩ (.int .i64 (up sc).1)).setCell ⟨br, 4, none⟩ (.int .i64 (up (up sc).2).1)) := ⟨_, rfl⟩
    have H7 : Hid (Dc w W pp p br ((up (up sc).2).2) (⟨kk, ff, tt, (up sc).1, (up (up sc).2).1, 0, 0, false, [], []⟩) none 0) := Lib.hid (H6.out.put (T := []) (by rw [hW]; exact (((Step.refl [br] V6).setCell (.inl (by simp)) _).setCell (.inl (by simp)) _)) (by rw [hW]; have hq := ((H6.out.2.2.2.2.2.1.set 3 (.int .i64 (up sc).1)).set 4 (.int .i64 (up (up sc).2).1)); simpa [rwc] using hq) rfl)
    rw [← hW]
    clear hW rc rl rf0 rf1 rf2 rf3 rf4 rf5 rf6 rf7 rf8 rf9
    clear pc
    have HRD : Hid (readM ⟨s, false⟩ = (⟨1, ff, tt, (up sc).1, (up (up sc).2).1, 0, 0, false, [], []⟩, (up (up sc).2).2)) := Lib.hid (by rw [HRM.out, HK.out]; rfl)
    have HIK : Hid (isKind (⟨1, ff, tt, (up sc).1, (up (up sc).2).1, 0, 0, false, [], []⟩ : Rw).kind = true) := Lib.hid rfl
    have HCL : Hid (cleanL ⟨1, ff, tt, (up sc).1, (up (up sc).2).1, 0, 0, false, [], []⟩ = ⟨1, ff, tt, (up sc).1, (up (up sc).2).1, 0, 0, false, [], []⟩) := Lib.hid rfl
    have HLN : Hid ((⟨1, ff, tt, (up sc).1, (up (up sc).2).1, 0, 0, false, [], []⟩ : Rw).es.length ≤ 4398046511104 ∧ (⟨1, ff, tt, (up sc).1, (up (up sc).2).1, 0, 0, false, [], []⟩ : Rw).data.length ≤ 1099511627776) := ⟨by simp, (by simp)⟩
    rw [HK.out] at H7
    rw [HK.out]
    have rc := H7.out.2.2.2.2.2.1.rw
    have rl := H7.out.2.2.2.2.2.1.lt
    go_wp2_with fail
    refine (of_any (⟨1, ff, tt, (up sc).1, (up (up sc).2).1, 0, 0, false, [], []⟩) none 0 _ HIK.out H7.out.2.2.2.2.2.2.1.rd HLN.out.1).mono ?_
    rintro e X1 ⟨m, rfl, hm, kx⟩
    have HX := Lib.hid (And.intro hm (And.intro (H7.out.quiet kx) (H7.out.out.trans kx)))
    clear hm kx rc rl
    have pc := HX.out.2.1.ptr
    obtain ⟨rz, hrz⟩ : ∃ rz, rz = rend ((up (up sc).2).2) := ⟨_, rfl⟩
    have HRZ := Lib.hid hrz
    clear hrz
    go_wp2_with fail
    refine (end_any p _ X1 HX.out.2.1.2.1).mono ?_
    rintro e X2 ⟨rfl, rfl⟩
    rw [← HRZ.out]
    by_cases hz : rz = 0
    · have HZ := Lib.hid (hz.symm.trans HRZ.out)
      have hzb : (rz != 0) = false := by simp [hz]
      clear hz
      go_wp2_with fail
      refine bodyPost_ret (results_tmp2 rfl _ _ _) rfl ⟨.inl ⟨_, m, decL_of HRD.out HIK.out HZ.out.symm, rfl, ?_, HLN.out.2⟩, HX.out.2.2⟩
      have h9 := HX.out.1
      rwa [HCL.out] at h9
    · have HZ := Lib.hid (fun e : rend ((up (up sc).2).2) = 0 => hz (HRZ.out.trans e))
      have hzb : (rz != 0) = true := by simp [hz]
      clear hz
      go_wp2_with fail
      exact bodyPost_ret (results_tmp2 rfl _ _ _) rfl ⟨.inr ⟨decL_no HRD.out (.inr HZ.out), rfl⟩, HX.out.2.2⟩
  · have hk1 := hk
    clear hk
    by_cases hk : kk = 2
    · have k1 : (kk == 1) = false := by simp [hk]
      have k2 : (kk == 2) = true := by simp [hk]
      have k3 : (kk == 3) = false := by simp [hk]
      have k4 : (kk == 4) = false := by simp [hk]
      have k5 : (kk == 5) = false := by simp [hk]
      have HK := Lib.hid hk
      clear hk
      have rc := H4.out.2.2.2.2.2.1.rw
      have rl := H4.out.2.2.2.2.2.1.lt
      have rf := H4.out.2.2.2.2.2.1.frozen
      have rf0 := rf 0
      have rf1 := rf 1
      have rf2 := rf 2
      have rf3 := rf 3
      have rf4 := rf 4
      have rf5 := rf 5
      have rf6 := rf 6
      have rf7 := rf 7
      have rf8 := rf 8
      have rf9 := rf 9
      clear rf
      have pc := H4.out.ptr
      go_wp2_with fail
      refine (dc_flag H4.out).mono ?_
      rintro e V5 ⟨rfl, t5⟩
      have H5 := Lib.hid t5
      clear t5 pc rc rl rf0 rf1 rf2 rf3 rf4 rf5 rf6 rf7 rf8 rf9
      have rc := H5.out.2.2.2.2.2.1.rw
      have rl := H5.out.2.2.2.2.2.1.lt
      have rf := H5.out.2.2.2.2.2.1.frozen
      have rf0 := rf 0
      have rf1 := rf 1
      have rf2 := rf 2
      have rf3 := rf 3
      have rf4 := rf 4
      have rf5 := rf 5
      have rf6 := rf 6
      have rf7 := rf 7
      have rf8 := rf 8
      have rf9 := rf 9
      clear rf
      go_upto_region 20 with fail
      obtain ⟨W, hW⟩ : ∃ W, W = (V5.setCell ⟨br, 7, none⟩ (.bool (rflag sc).1)) := ⟨_, rfl⟩
      have H7 : Hid (Dc w W pp p br ((rflag sc).2) (⟨kk, ff, tt, 0, 0, 0, 0, (rflag sc).1, [], []⟩) none 0) := Lib.hid (H5.out.put (T := []) (by rw [hW]; exact ((Step.refl [br] V5).setCell (.inl (by simp)) _)) (by rw [hW]; have hq := (H5.out.2.2.2.2.2.1.set 7 (.bool (rflag sc).1)); simpa [rwc] using hq) rfl)
      rw [← hW]
      clear hW rc rl rf0 rf1 rf2 rf3 rf4 rf5 rf6 rf7 rf8 rf9
      have HRD : Hid (readM ⟨s, false⟩ = (⟨2, ff, tt, 0, 0, 0, 0, (rflag sc).1, [], []⟩, (rflag sc).2)) := Lib.hid (by rw [HRM.out, HK.out]; rfl)
      have HIK : Hid (isKind (⟨2, ff, tt, 0, 0, 0, 0, (rflag sc).1, [], []⟩ : Rw).kind = true) := Lib.hid rfl
      have HCL : Hid (cleanL ⟨2, ff, tt, 0, 0, 0, 0, (rflag sc).1, [], []⟩ = ⟨2, ff, tt, 0, 0, 0, 0, (rflag sc).1, [], []⟩) := Lib.hid rfl
      have HLN : Hid ((⟨2, ff, tt, 0, 0, 0, 0, (rflag sc).1, [], []⟩ : Rw).es.length ≤ 4398046511104 ∧ (⟨2, ff, tt, 0, 0, 0, 0, (rflag sc).1, [], []⟩ : Rw).data.length ≤ 1099511627776) := ⟨by simp, (by simp)⟩
      rw [HK.out] at H7
      rw [HK.out]
      have rc := H7.out.2.2.2.2.2.1.rw
      have rl := H7.out.2.2.2.2.2.1.lt
      go_wp2_with fail
      refine (of_any (⟨2, ff, tt, 0, 0, 0, 0, (rflag sc).1, [], []⟩) none 0 _ HIK.out H7.out.2.2.2.2.2.2.1.rd HLN.out.1).mono ?_
      rintro e X1 ⟨m, rfl, hm, kx⟩
      have HX := Lib.hid (And.intro hm (And.intro (H7.out.quiet kx) (H7.out.out.trans kx)))
      clear hm kx rc rl
      have pc := HX.out.2.1.ptr
      obtain ⟨rz, hrz⟩ : ∃ rz, rz = rend ((rflag sc).2) := ⟨_, rfl⟩
      have HRZ := Lib.hid hrz
      clear hrz
      go_wp2_with fail
      refine (end_any p _ X1 HX.out.2.1.2.1).mono ?_
      rintro e X2 ⟨rfl, rfl⟩
      rw [← HRZ.out]
      by_cases hz : rz = 0
      · have HZ := Lib.hid (hz.symm.trans HRZ.out)
        have hzb : (rz != 0) = false := by simp [hz]
        clear hz
        go_wp2_with fail
        refine bodyPost_ret (results_tmp2 rfl _ _ _) rfl ⟨.inl ⟨_, m, decL_of HRD.out HIK.out HZ.out.symm, rfl, ?_, HLN.out.2⟩, HX.out.2.2⟩
        have h9 := HX.out.1
        rwa [HCL.out] at h9
      · have HZ := Lib.hid (fun e : rend ((rflag sc).2) = 0 => hz (HRZ.out.trans e))
        have hzb : (rz != 0) = true := by simp [hz]
        clear hz
        go_wp2_with fail
        exact bodyPost_ret (results_tmp2 rfl _ _ _) rfl ⟨.inr ⟨decL_no HRD.out (.inr HZ.out), rfl⟩, HX.out.2.2⟩
    · have hk2 := hk
      clear hk
      by_cases hk : kk = 3
      · have k1 : (kk == 1) = false := by simp [hk]
        have k2 : (kk == 2) = false := by simp [hk]
        have k3 : (kk == 3) = true := by simp [hk]
        have k4 : (kk == 4) = false := by simp [hk]
        have k5 : (kk == 5) = false := by simp [hk]
        have HK := Lib.hid hk
        clear hk
        have rc := H4.out.2.2.2.2.2.1.rw
        have rl := H4.out.2.2.2.2.2.1.lt
        have rf := H4.out.2.2.2.2.2.1.frozen
        have rf0 := rf 0
        have rf1 := rf 1
        have rf2 := rf 2
        have rf3 := rf 3
        have rf4 := rf 4
        have rf5 := rf 5
        have rf6 := rf 6
        have rf7 := rf 7
        have rf8 := rf 8
        have rf9 := rf 9
        clear rf
        have pc := H4.out.ptr
        go_wp2_with fail
        refine (dc_num H4.out).mono ?_
        rintro e V5 ⟨rfl, t5⟩
        have H5 := Lib.hid t5
        clear t5 pc rc rl rf0 rf1 rf2 rf3 rf4 rf5 rf6 rf7 rf8 rf9
        have pc := H5.out.ptr
        go_wp2_with fail
        refine (dc_num H5.out).mono ?_
        rintro e V6 ⟨rfl, t6⟩
        have H6 := Lib.hid t6
        clear t6 pc
        have pc := H6.out.ptr
        go_wp2_with fail
        refine (dc_num H6.out).mono ?_
        rintro e V7 ⟨rfl, t7⟩
        have H7 := Lib.hid t7
        clear t7 pc
        have pc := H7.out.ptr
        go_wp2_with fail
        refine (dc_num H7.out).mono ?_
        rintro e V8 ⟨rfl, t8⟩
        have H8 := Lib.hid t8
        clear t8 pc
        have pc := H8.out.ptr
        have rc := H8.out.2.2.2.2.2.1.rw
        have rl := H8.out.2.2.2.2.2.1.lt
        have rf := H8.out.2.2.2.2.2.1.frozen
        have rf0 := rf 0
        have rf1 := rf 1
        have rf2 := rf 2
        have rf3 := rf 3
        have rf4 := rf 4
        have rf5 := rf 5
        have rf6 := rf 6
        have rf7 := rf 7
        have rf8 := rf 8
        have rf9 := rf 9
        clear rf
        go_upto_region 11 with fail
        obtain ⟨W, hW⟩ : ∃ W, W = ((((V8.setCell ⟨br, 3, none⟩ (.int .i64 (up sc).1)).setCell ⟨br, 4, none⟩ (.int .i64 (up (up sc).2).1)).setCell ⟨br, 5, none⟩ (.int .i64 (up (up (up sc).2).2).1)).setCell ⟨br, 6, none⟩ (.int .i64 (up (up (up (up sc).2).2).2).1)) := ⟨_, rfl⟩
        have H9 : Hid (Dc w W pp p br ((up (up (up (up sc).2).2).2).2) (⟨kk, ff, tt, (up sc).1, (up (up sc).2).1, (up (up (up sc).2).2).1, (up (up (up (up sc).2).2).2).1, false, [], []⟩) none 0) := Lib.hid (H8.out.put (T := []) (by rw [hW]; exact (((((Step.refl [br] V8).setCell (.inl (by simp)) _).setCell (.inl (by simp)) _).setCell (.inl (by simp)) _).setCell (.inl (by simp)) _)) (by rw [hW]; have hq := ((((H8.out.2.2.2.2.2.1.set 3 (.int .i64 (up sc).1)).set 4 (.int .i64 (up (up sc).2).1)).set 5 (.int .i64 (up (up (up sc).2).2).1)).set 6 (.int .i64 (up (up (up (up sc).2).2).2).1)); simpa [rwc] using hq) rfl)
        rw [← hW]
        clear hW rc rl rf0 rf1 rf2 rf3 rf4 rf5 rf6 rf7 rf8 rf9
        clear pc
        have hix1 := upto_nat sc 1099511627776
        have hix2 := upto_most sc 1099511627776 (by omega)
        obtain ⟨ix, hix⟩ : ∃ ix, ix = (up sc).1 := ⟨_, rfl⟩
        obtain ⟨l1, hl1⟩ : ∃ l1, l1 = (up (up sc).2).1 := ⟨_, rfl⟩
        obtain ⟨c1, hc1⟩ : ∃ c1, c1 = (up (up (up sc).2).2).1 := ⟨_, rfl⟩
        obtain ⟨d1, hd1⟩ : ∃ d1, d1 = (up (up (up (up sc).2).2).2).1 := ⟨_, rfl⟩
        obtain ⟨s4, hs4⟩ : ∃ s4, s4 = (up (up (up (up sc).2).2).2).2 := ⟨_, rfl⟩
        have hixa : 0 ≤ ix := by rw [hix]; exact hix1
        have hixb : ix ≤ 1099511627776 := by rw [hix]; exact hix2
        rw [← hix, ← hl1, ← hc1, ← hd1, ← hs4] at H9
        rw [← hix, ← hl1, ← hc1, ← hd1]
        have HIX := Lib.hid (And.intro hix (And.intro hl1 (And.intro hc1 (And.intro hd1 hs4))))
        clear hix hl1 hc1 hd1 hs4 hix1 hix2
        have pc := H9.out.ptr
        go_wp2_with fail
        refine (dc_upto H9.out 8).mono ?_
        rintro e V10 ⟨rfl, t10⟩
        obtain ⟨N, hN⟩ : ∃ N : Nat, N = (upto s4 8).1.toNat := ⟨_, rfl⟩
        obtain ⟨s5, hs5⟩ : ∃ s5, s5 = (upto s4 8).2 := ⟨_, rfl⟩
        have hN2 : (upto s4 8).1 = (N : Int) := by have := upto_nat s4 8; omega
        have hN8 : N ≤ 8 := by have := upto_most s4 8 (by omega); omega
        rw [hN2]
        rw [← hs5] at t10
        have H10 : Hid (Dc w V10 pp p br (readEs (ix + 1) 0 s5).2 (⟨kk, ff, tt, ix, l1, c1, d1, false, (readEs (ix + 1) 0 s5).1, []⟩ : Rw) none 0) := Lib.hid t10
        have HN : Hid (N = (upto (up (up (up (up sc).2).2).2).2 8).1.toNat ∧ s5 = (upto (up (up (up (up sc).2).2).2).2 8).2) := ⟨by rw [← HIX.out.2.2.2.2]; exact hN, by rw [← HIX.out.2.2.2.2]; exact hs5⟩
        clear t10 hN hs5 hN2 pc H9 H8 H7 H6 H5 H4
        go_wp2_with fail
        go_loopw [51] (fun v W => ∃ (k : Nat) (a : Option Addr) (cap : Nat), v = .int .i64 k ∧ k ≤ N ∧ Hid (Dc w W pp p br (readEs (ix + 1) k s5).2 (⟨kk, ff, tt, ix, l1, c1, d1, false, (readEs (ix + 1) k s5).1, []⟩ : Rw) a cap)) (fun v _ => N - (intOf v).toNat)
        case atStart => exact ⟨0, none, 0, rfl, by omega, H10.out⟩
        case round =>
          clear H10
          rename World => W1
          obtain ⟨k, a, cap, rfl, hkN, HW⟩ := hrel
          by_cases hlt : k < N
          · have hlt' : (k : Int) < N := by omega
            have hit : IntKind.i64.wrap (ix + 1) = ix + 1 := IntWalk.i64_in _ (by omega)
            have hit2 : IntKind.i64.wrap (ix + 1 + (k : Int)) = ix + 1 + (k : Int) := IntWalk.i64_in _ (by omega)
            obtain ⟨i0, hi, hz0, hz1, hz2⟩ := info_parts Try.info_ent
            have HI := Lib.hid (And.intro hi (And.intro hz0 (And.intro hz1 hz2)))
            clear hi hz0 hz1 hz2
            have hlen8 : (readEs (ix + 1) k s5).1.length ≤ 8 := by rw [readEs_len]; omega
            go_upto_region 14 with fail
            have HWd : Hid (Dc w W1.drew pp p br (readEs (ix + 1) k s5).2 (⟨kk, ff, tt, ix, l1, c1, d1, false, (readEs (ix + 1) k s5).1, []⟩ : Rw) a cap) := Lib.hid (HW.out.quiet ((Step.refl [] W1).drew))
            refine wp_region_held_drew (S := fun V => Hid (Blk V pp 74 #[.pointer (some ⟨p, 0, none⟩)] ∧ V.cell? ⟨br, 3, none⟩ = some (.int .i64 ix) ∧ br < V.heap.size)) (by kernel_rfl) (Lib.hid ⟨HWd.out.1, HWd.out.2.2.2.2.2.1.rw.2.2.2.1, HWd.out.2.2.2.2.2.1.lt⟩) (fun hHeld => ?_)
            refine wpAnyH_take (i := 0) (v := ?_) rfl (by kernel_rfl) (by kernel_rfl) (by kernel_rfl) (fun _ _ _ h => h) (Or.inl ⟨by rfl, ?_⟩) hHeld ?_
            rotate_left
            · intro w hSw
              have hSw1 := hSw
              clear hSw
              try dsimp only at hSw1
              go_simp
              try (with_reducible rfl)
            try simp only [Act.put, List.setIfInBounds_toArray, List.set_cons_zero, List.set_cons_succ, List.getElem_toArray, List.getElem_cons_zero, List.getElem_cons_succ]
            refine wpAnyH_take (i := 2) (v := ?_) rfl (by kernel_rfl) (by kernel_rfl) (by kernel_rfl) (fun _ _ _ h => h) (Or.inl ⟨by rfl, ?_⟩) hHeld ?_
            rotate_left
            · intro w hSw
              have hSw1 := hSw
              clear hSw
              try dsimp only at hSw1
              go_simp
              try (with_reducible rfl)
            try simp only [Act.put, List.setIfInBounds_toArray, List.set_cons_zero, List.set_cons_succ, List.getElem_toArray, List.getElem_cons_zero, List.getElem_cons_succ]
            refine wpAnyH_take (i := 3) (v := ?_) rfl (by kernel_rfl) (by kernel_rfl) (by kernel_rfl) (fun _ _ _ h => h) (Or.inl ⟨by rfl, ?_⟩) hHeld ?_
            rotate_left
            · intro w hSw
              have hSw1 := hSw
              clear hSw
              have hb0 := hSw1.out.1.cell 0
              have hb1 := hSw1.out.1.lt
              have hb2 := hSw1.out.2.1
              have hb3 := hSw1.out.2.2
              simp only [List.getElem?_toArray, List.getElem?_cons_zero, List.getElem?_cons_succ] at hb0
              go_simp
              try (with_reducible rfl)
            try simp only [Act.put, List.setIfInBounds_toArray, List.set_cons_zero, List.set_cons_succ, List.getElem_toArray, List.getElem_cons_zero, List.getElem_cons_succ]
            refine wpAnyH_take (i := 4) (v := ?_) rfl (by kernel_rfl) (by kernel_rfl) (by kernel_rfl) (fun _ _ _ h => h) (Or.inl ⟨by rfl, ?_⟩) hHeld ?_
            rotate_left
            · intro w hSw
              have hSw1 := hSw
              clear hSw
              try dsimp only at hSw1
              go_simp
              try (with_reducible rfl)
            try simp only [Act.put, List.setIfInBounds_toArray, List.set_cons_zero, List.set_cons_succ, List.getElem_toArray, List.getElem_cons_zero, List.getElem_cons_succ]
            refine wpAnyH_take (i := 5) (v := ?_) rfl (by kernel_rfl) (by kernel_rfl) (by kernel_rfl) (fun _ _ _ h => h) (Or.inl ⟨by rfl, ?_⟩) hHeld ?_
            rotate_left
            · intro w hSw
              have hSw1 := hSw
              clear hSw
              try dsimp only at hSw1
              go_simp
              try (with_reducible rfl)
            try simp only [Act.put, List.setIfInBounds_toArray, List.set_cons_zero, List.set_cons_succ, List.getElem_toArray, List.getElem_cons_zero, List.getElem_cons_succ]
            refine wpAnyH_take (i := 6) (v := ?_) rfl (by kernel_rfl) (by kernel_rfl) (by kernel_rfl) (fun _ _ _ h => h) (Or.inl ⟨by rfl, ?_⟩) hHeld ?_
            rotate_left
            · intro w hSw
              have hSw1 := hSw
              clear hSw
              try dsimp only at hSw1
              go_simp
              try (with_reducible rfl)
            try simp only [Act.put, List.setIfInBounds_toArray, List.set_cons_zero, List.set_cons_succ, List.getElem_toArray, List.getElem_cons_zero, List.getElem_cons_succ]
            refine wpAnyH_take (i := 7) (v := ?_) rfl (by kernel_rfl) (by kernel_rfl) (by kernel_rfl) (fun _ _ _ h => h) (Or.inl ⟨by rfl, ?_⟩) hHeld ?_
            rotate_left
            · intro w hSw
              have hSw1 := hSw
              clear hSw
              try dsimp only at hSw1
              go_simp
              try (with_reducible rfl)
            try simp only [Act.put, List.setIfInBounds_toArray, List.set_cons_zero, List.set_cons_succ, List.getElem_toArray, List.getElem_cons_zero, List.getElem_cons_succ]
            refine wpAnyH_take (i := 9) (v := ?_) rfl (by kernel_rfl) (by kernel_rfl) (by kernel_rfl) (fun _ _ _ h => h) (Or.inl ⟨by rfl, ?_⟩) hHeld ?_
            rotate_left
            · intro w hSw
              have hSw1 := hSw
              clear hSw
              have hb0 := hSw1.out.1.cell 0
              have hb1 := hSw1.out.1.lt
              have hb2 := hSw1.out.2.1
              have hb3 := hSw1.out.2.2
              simp only [List.getElem?_toArray, List.getElem?_cons_zero, List.getElem?_cons_succ] at hb0
              go_simp
              try (with_reducible rfl)
            try simp only [Act.put, List.setIfInBounds_toArray, List.set_cons_zero, List.set_cons_succ, List.getElem_toArray, List.getElem_cons_zero, List.getElem_cons_succ]
            refine wpAnyH_ready (rs := [1, 8]) (by kernel_rfl) (by simp) ?_
            refine AllReadyH.cons rfl (fun K hK => ?_) (AllReadyH.cons rfl (fun K hK => ?_) (AllReadyH.nil))
            · skip
              have rc := HWd.out.2.2.2.2.2.1.rw; have rl := HWd.out.2.2.2.2.2.1.lt; go_simp; go_wp2_with fail; clear rc rl
              refine hK.out _ _ (hHeld) (fun hHeld2 => ?_)
              clear hK K hHeld
              try simp only [Act.put, List.setIfInBounds_toArray, List.set_cons_zero, List.set_cons_succ, List.getElem_toArray, List.getElem_cons_zero, List.getElem_cons_succ]
              refine wpAnyH_ready (rs := [8]) (by kernel_rfl) (by simp) ?_
              refine AllReadyH.cons rfl (fun K hK => ?_) AllReadyH.nil
              go_simp
              refine (dc_num HWd.out).mono ?_; rintro e X1 ⟨rfl, t⟩; have G1 := Lib.hid t; clear t
              go_wp2_with fail
              refine hK.out _ _ (Lib.hid ⟨G1.out.1, G1.out.2.2.2.2.2.1.rw.2.2.2.1, G1.out.2.2.2.2.2.1.lt⟩) (fun hHeld3 => ?_)
              clear hK K hHeld2
              try simp only [Act.put, List.setIfInBounds_toArray, List.set_cons_zero, List.set_cons_succ, List.getElem_toArray, List.getElem_cons_zero, List.getElem_cons_succ]
              refine wpAnyH_ready (rs := [10]) (by kernel_rfl) (by simp) ?_
              refine AllReadyH.cons rfl (fun K hK => ?_) AllReadyH.nil
              go_simp
              refine (dc_text G1.out 8192).mono ?_; rintro e X2 ⟨rfl, t⟩; have G2 := Lib.hid t; clear t
              go_wp2_with fail
              refine hK.out _ _ (Lib.hid ⟨G2.out.1, G2.out.2.2.2.2.2.1.rw.2.2.2.1, G2.out.2.2.2.2.2.1.lt⟩) (fun hHeld4 => ?_)
              clear hK K hHeld3
              try simp only [Act.put, List.setIfInBounds_toArray, List.set_cons_zero, List.set_cons_succ, List.getElem_toArray, List.getElem_cons_zero, List.getElem_cons_succ]
              refine wpAnyH_take (i := 11) (v := ?_) rfl (by kernel_rfl) (by kernel_rfl) (by kernel_rfl) (fun _ _ _ h => h) (Or.inl ⟨by rfl, ?_⟩) hHeld4 ?_
              rotate_left
              · intro w hSw
                have hSw1 := hSw
                clear hSw
                try dsimp only at hSw1
                go_simp
                try (with_reducible rfl)
              try simp only [Act.put, List.setIfInBounds_toArray, List.set_cons_zero, List.set_cons_succ, List.getElem_toArray, List.getElem_cons_zero, List.getElem_cons_succ]
              refine wpAnyH_ready (rs := [12]) (by kernel_rfl) (by simp) ?_
              refine AllReadyH.cons rfl (fun K hK => ?_) AllReadyH.nil
              go_simp; go_wp2_with fail; refine letter (K := K) ?_; intro U hU; obtain ⟨eb, heb⟩ : ∃ eb, eb = X2.heap.size := ⟨_, rfl⟩; have G3 : Hid (Dc w U pp p br _ (⟨kk, ff, tt, ix, l1, c1, d1, false, (readEs (ix + 1) k s5).1, []⟩ : Rw) a cap) := Lib.hid (by rw [hU]; exact G2.out.quiet ((Step.refl [] _).alloc _)); have B3 : Hid (Blk U eb 60 (entc ⟨ix + 1 + (k : Int), (up (readEs (ix + 1) k s5).2).1, (rtext (up (readEs (ix + 1) k s5).2).2 8192).1⟩).toArray) := Lib.hid (by rw [hU, heb]; exact Blk.new _ _ _); rw [← heb]; clear hU heb
              refine hK.out _ _ (Lib.hid ⟨G3.out.1, G3.out.2.2.2.2.2.1.rw.2.2.2.1, G3.out.2.2.2.2.2.1.lt⟩) (fun hHeld5 => ?_)
              clear hK K hHeld4
              try simp only [Act.put, List.setIfInBounds_toArray, List.set_cons_zero, List.set_cons_succ, List.getElem_toArray, List.getElem_cons_zero, List.getElem_cons_succ]
              refine wpAnyH_ready (rs := [13]) (by kernel_rfl) (by simp) ?_
              refine AllReadyH.cons rfl (fun K hK => ?_) AllReadyH.nil
              have HRW : Hid (Row U 3 a (readEs (ix + 1) k s5).1.length cap (entcs (readEs (ix + 1) k s5).1)) := Lib.hid G3.out.2.2.2.2.2.2.1; refine step_append_row rfl (.tmp 55) (.tmp 66) 22 22 rfl 60 i0 _ 3 32 Try.underlying22 HI.out.1 HI.out.2.1 HI.out.2.2.1 HI.out.2.2.2 rfl rfl HRW.out rfl (Src.rd 22 60 Try.underlying22 (rd_blk B3.out 3 1 rfl) (entc_one _)) (by unfold maxLen; omega) (by omega) (by omega) ?_; intro a9 cap9 w9 hr9 st9; have G9 : Hid (Dc w (w9.setCell ⟨br, 8, none⟩ (.slice a9 ((readEs (ix + 1) k s5).1.length + 1) cap9)) pp p br _ (⟨kk, ff, tt, ix, l1, c1, d1, false, (readEs (ix + 1) k s5).1 ++ [⟨ix + 1 + (k : Int), (up (readEs (ix + 1) k s5).2).1, (rtext (up (readEs (ix + 1) k s5).2).2 8192).1⟩], []⟩ : Rw) a9 cap9) := Lib.hid (G3.out.grow (e := ⟨ix + 1 + (k : Int), (up (readEs (ix + 1) k s5).2).1, (rtext (up (readEs (ix + 1) k s5).2).2 8192).1⟩) st9 hr9 rfl); have M9 := Lib.hid (G3.out.mid st9); clear hr9 st9; have z8 := M9.out.1.rw; have zl := M9.out.1.lt; have zf := M9.out.1.frozen 8
              refine hK.out _ _ (Lib.hid ⟨M9.out.2, M9.out.1.rw.2.2.2.1, M9.out.1.lt⟩) (fun hHeld6 => ?_)
              clear hK K hHeld5
              try simp only [Act.put, List.setIfInBounds_toArray, List.set_cons_zero, List.set_cons_succ, List.getElem_toArray, List.getElem_cons_zero, List.getElem_cons_succ]
              refine wpAnyH_take (i := 14) (v := ?_) rfl (by kernel_rfl) (by kernel_rfl) (by kernel_rfl) (fun _ _ _ h => h) (Or.inl ⟨by rfl, ?_⟩) hHeld6 ?_
              rotate_left
              · intro w hSw
                have hSw1 := hSw
                clear hSw
                try dsimp only at hSw1
                go_simp
                try (with_reducible rfl)
              try simp only [Act.put, List.setIfInBounds_toArray, List.set_cons_zero, List.set_cons_succ, List.getElem_toArray, List.getElem_cons_zero, List.getElem_cons_succ]
              refine wpAnyH_ready (rs := [15]) (by kernel_rfl) (by simp) ?_
              refine AllReadyH.cons rfl (fun K hK => ?_) AllReadyH.nil
              go_simp
              skip
              go_wp2_with fail
              refine hK.out _ _ (Lib.hid ⟨G9.out.1, G9.out.2.2.2.2.2.1.rw.2.2.2.1, G9.out.2.2.2.2.2.1.lt⟩) (fun hHeld7 => ?_)
              clear hK K hHeld6
              try simp only [Act.put, List.setIfInBounds_toArray, List.set_cons_zero, List.set_cons_succ, List.getElem_toArray, List.getElem_cons_zero, List.getElem_cons_succ]
              refine wpAnyH_done (by kernel_rfl) ?_ _
              clear z8 zl zf
              go_wp2_with fail
              go_roundw
              case rel => exact ⟨k + 1, a9, cap9, by go_num, by omega, G9.out⟩
              case measure => simp [intOf]; omega
            · skip
              go_simp
              refine (dc_num HWd.out).mono ?_; rintro e X1 ⟨rfl, t⟩; have G1 := Lib.hid t; clear t
              go_wp2_with fail
              refine hK.out _ _ (Lib.hid ⟨G1.out.1, G1.out.2.2.2.2.2.1.rw.2.2.2.1, G1.out.2.2.2.2.2.1.lt⟩) (fun hHeld2 => ?_)
              clear hK K hHeld
              try simp only [Act.put, List.setIfInBounds_toArray, List.set_cons_zero, List.set_cons_succ, List.getElem_toArray, List.getElem_cons_zero, List.getElem_cons_succ]
              refine wpAnyH_ready (rs := [1, 10]) (by kernel_rfl) (by simp) ?_
              refine AllReadyH.cons rfl (fun K hK => ?_) (AllReadyH.cons rfl (fun K hK => ?_) (AllReadyH.nil))
              · skip
                have rc := G1.out.2.2.2.2.2.1.rw; have rl := G1.out.2.2.2.2.2.1.lt; go_simp; go_wp2_with fail; clear rc rl
                refine hK.out _ _ (hHeld2) (fun hHeld3 => ?_)
                clear hK K hHeld2
                try simp only [Act.put, List.setIfInBounds_toArray, List.set_cons_zero, List.set_cons_succ, List.getElem_toArray, List.getElem_cons_zero, List.getElem_cons_succ]
                refine wpAnyH_ready (rs := [10]) (by kernel_rfl) (by simp) ?_
                refine AllReadyH.cons rfl (fun K hK => ?_) AllReadyH.nil
                go_simp
                refine (dc_text G1.out 8192).mono ?_; rintro e X2 ⟨rfl, t⟩; have G2 := Lib.hid t; clear t
                go_wp2_with fail
                refine hK.out _ _ (Lib.hid ⟨G2.out.1, G2.out.2.2.2.2.2.1.rw.2.2.2.1, G2.out.2.2.2.2.2.1.lt⟩) (fun hHeld4 => ?_)
                clear hK K hHeld3
                try simp only [Act.put, List.setIfInBounds_toArray, List.set_cons_zero, List.set_cons_succ, List.getElem_toArray, List.getElem_cons_zero, List.getElem_cons_succ]
                refine wpAnyH_take (i := 11) (v := ?_) rfl (by kernel_rfl) (by kernel_rfl) (by kernel_rfl) (fun _ _ _ h => h) (Or.inl ⟨by rfl, ?_⟩) hHeld4 ?_
                rotate_left
                · intro w hSw
                  have hSw1 := hSw
                  clear hSw
                  try dsimp only at hSw1
                  go_simp
                  try (with_reducible rfl)
                try simp only [Act.put, List.setIfInBounds_toArray, List.set_cons_zero, List.set_cons_succ, List.getElem_toArray, List.getElem_cons_zero, List.getElem_cons_succ]
                refine wpAnyH_ready (rs := [12]) (by kernel_rfl) (by simp) ?_
                refine AllReadyH.cons rfl (fun K hK => ?_) AllReadyH.nil
                go_simp; go_wp2_with fail; refine letter (K := K) ?_; intro U hU; obtain ⟨eb, heb⟩ : ∃ eb, eb = X2.heap.size := ⟨_, rfl⟩; have G3 : Hid (Dc w U pp p br _ (⟨kk, ff, tt, ix, l1, c1, d1, false, (readEs (ix + 1) k s5).1, []⟩ : Rw) a cap) := Lib.hid (by rw [hU]; exact G2.out.quiet ((Step.refl [] _).alloc _)); have B3 : Hid (Blk U eb 60 (entc ⟨ix + 1 + (k : Int), (up (readEs (ix + 1) k s5).2).1, (rtext (up (readEs (ix + 1) k s5).2).2 8192).1⟩).toArray) := Lib.hid (by rw [hU, heb]; exact Blk.new _ _ _); rw [← heb]; clear hU heb
                refine hK.out _ _ (Lib.hid ⟨G3.out.1, G3.out.2.2.2.2.2.1.rw.2.2.2.1, G3.out.2.2.2.2.2.1.lt⟩) (fun hHeld5 => ?_)
                clear hK K hHeld4
                try simp only [Act.put, List.setIfInBounds_toArray, List.set_cons_zero, List.set_cons_succ, List.getElem_toArray, List.getElem_cons_zero, List.getElem_cons_succ]
                refine wpAnyH_ready (rs := [13]) (by kernel_rfl) (by simp) ?_
                refine AllReadyH.cons rfl (fun K hK => ?_) AllReadyH.nil
                have HRW : Hid (Row U 3 a (readEs (ix + 1) k s5).1.length cap (entcs (readEs (ix + 1) k s5).1)) := Lib.hid G3.out.2.2.2.2.2.2.1; refine step_append_row rfl (.tmp 55) (.tmp 66) 22 22 rfl 60 i0 _ 3 32 Try.underlying22 HI.out.1 HI.out.2.1 HI.out.2.2.1 HI.out.2.2.2 rfl rfl HRW.out rfl (Src.rd 22 60 Try.underlying22 (rd_blk B3.out 3 1 rfl) (entc_one _)) (by unfold maxLen; omega) (by omega) (by omega) ?_; intro a9 cap9 w9 hr9 st9; have G9 : Hid (Dc w (w9.setCell ⟨br, 8, none⟩ (.slice a9 ((readEs (ix + 1) k s5).1.length + 1) cap9)) pp p br _ (⟨kk, ff, tt, ix, l1, c1, d1, false, (readEs (ix + 1) k s5).1 ++ [⟨ix + 1 + (k : Int), (up (readEs (ix + 1) k s5).2).1, (rtext (up (readEs (ix + 1) k s5).2).2 8192).1⟩], []⟩ : Rw) a9 cap9) := Lib.hid (G3.out.grow (e := ⟨ix + 1 + (k : Int), (up (readEs (ix + 1) k s5).2).1, (rtext (up (readEs (ix + 1) k s5).2).2 8192).1⟩) st9 hr9 rfl); have M9 := Lib.hid (G3.out.mid st9); clear hr9 st9; have z8 := M9.out.1.rw; have zl := M9.out.1.lt; have zf := M9.out.1.frozen 8
                refine hK.out _ _ (Lib.hid ⟨M9.out.2, M9.out.1.rw.2.2.2.1, M9.out.1.lt⟩) (fun hHeld6 => ?_)
                clear hK K hHeld5
                try simp only [Act.put, List.setIfInBounds_toArray, List.set_cons_zero, List.set_cons_succ, List.getElem_toArray, List.getElem_cons_zero, List.getElem_cons_succ]
                refine wpAnyH_take (i := 14) (v := ?_) rfl (by kernel_rfl) (by kernel_rfl) (by kernel_rfl) (fun _ _ _ h => h) (Or.inl ⟨by rfl, ?_⟩) hHeld6 ?_
                rotate_left
                · intro w hSw
                  have hSw1 := hSw
                  clear hSw
                  try dsimp only at hSw1
                  go_simp
                  try (with_reducible rfl)
                try simp only [Act.put, List.setIfInBounds_toArray, List.set_cons_zero, List.set_cons_succ, List.getElem_toArray, List.getElem_cons_zero, List.getElem_cons_succ]
                refine wpAnyH_ready (rs := [15]) (by kernel_rfl) (by simp) ?_
                refine AllReadyH.cons rfl (fun K hK => ?_) AllReadyH.nil
                go_simp
                skip
                go_wp2_with fail
                refine hK.out _ _ (Lib.hid ⟨G9.out.1, G9.out.2.2.2.2.2.1.rw.2.2.2.1, G9.out.2.2.2.2.2.1.lt⟩) (fun hHeld7 => ?_)
                clear hK K hHeld6
                try simp only [Act.put, List.setIfInBounds_toArray, List.set_cons_zero, List.set_cons_succ, List.getElem_toArray, List.getElem_cons_zero, List.getElem_cons_succ]
                refine wpAnyH_done (by kernel_rfl) ?_ _
                clear z8 zl zf
                go_wp2_with fail
                go_roundw
                case rel => exact ⟨k + 1, a9, cap9, by go_num, by omega, G9.out⟩
                case measure => simp [intOf]; omega
              · skip
                go_simp
                refine (dc_text G1.out 8192).mono ?_; rintro e X2 ⟨rfl, t⟩; have G2 := Lib.hid t; clear t
                go_wp2_with fail
                refine hK.out _ _ (Lib.hid ⟨G2.out.1, G2.out.2.2.2.2.2.1.rw.2.2.2.1, G2.out.2.2.2.2.2.1.lt⟩) (fun hHeld3 => ?_)
                clear hK K hHeld2
                try simp only [Act.put, List.setIfInBounds_toArray, List.set_cons_zero, List.set_cons_succ, List.getElem_toArray, List.getElem_cons_zero, List.getElem_cons_succ]
                refine wpAnyH_take (i := 11) (v := ?_) rfl (by kernel_rfl) (by kernel_rfl) (by kernel_rfl) (fun _ _ _ h => h) (Or.inl ⟨by rfl, ?_⟩) hHeld3 ?_
                rotate_left
                · intro w hSw
                  have hSw1 := hSw
                  clear hSw
                  try dsimp only at hSw1
                  go_simp
                  try (with_reducible rfl)
                try simp only [Act.put, List.setIfInBounds_toArray, List.set_cons_zero, List.set_cons_succ, List.getElem_toArray, List.getElem_cons_zero, List.getElem_cons_succ]
                refine wpAnyH_ready (rs := [1, 12]) (by kernel_rfl) (by simp) ?_
                refine AllReadyH.cons rfl (fun K hK => ?_) (AllReadyH.cons rfl (fun K hK => ?_) (AllReadyH.nil))
                · skip
                  have rc := G2.out.2.2.2.2.2.1.rw; have rl := G2.out.2.2.2.2.2.1.lt; go_simp; go_wp2_with fail; clear rc rl
                  refine hK.out _ _ (hHeld3) (fun hHeld4 => ?_)
                  clear hK K hHeld3
                  try simp only [Act.put, List.setIfInBounds_toArray, List.set_cons_zero, List.set_cons_succ, List.getElem_toArray, List.getElem_cons_zero, List.getElem_cons_succ]
                  refine wpAnyH_ready (rs := [12]) (by kernel_rfl) (by simp) ?_
                  refine AllReadyH.cons rfl (fun K hK => ?_) AllReadyH.nil
                  go_simp; go_wp2_with fail; refine letter (K := K) ?_; intro U hU; obtain ⟨eb, heb⟩ : ∃ eb, eb = X2.heap.size := ⟨_, rfl⟩; have G3 : Hid (Dc w U pp p br _ (⟨kk, ff, tt, ix, l1, c1, d1, false, (readEs (ix + 1) k s5).1, []⟩ : Rw) a cap) := Lib.hid (by rw [hU]; exact G2.out.quiet ((Step.refl [] _).alloc _)); have B3 : Hid (Blk U eb 60 (entc ⟨ix + 1 + (k : Int), (up (readEs (ix + 1) k s5).2).1, (rtext (up (readEs (ix + 1) k s5).2).2 8192).1⟩).toArray) := Lib.hid (by rw [hU, heb]; exact Blk.new _ _ _); rw [← heb]; clear hU heb
                  refine hK.out _ _ (Lib.hid ⟨G3.out.1, G3.out.2.2.2.2.2.1.rw.2.2.2.1, G3.out.2.2.2.2.2.1.lt⟩) (fun hHeld5 => ?_)
                  clear hK K hHeld4
                  try simp only [Act.put, List.setIfInBounds_toArray, List.set_cons_zero, List.set_cons_succ, List.getElem_toArray, List.getElem_cons_zero, List.getElem_cons_succ]
                  refine wpAnyH_ready (rs := [13]) (by kernel_rfl) (by simp) ?_
                  refine AllReadyH.cons rfl (fun K hK => ?_) AllReadyH.nil
                  have HRW : Hid (Row U 3 a (readEs (ix + 1) k s5).1.length cap (entcs (readEs (ix + 1) k s5).1)) := Lib.hid G3.out.2.2.2.2.2.2.1; refine step_append_row rfl (.tmp 55) (.tmp 66) 22 22 rfl 60 i0 _ 3 32 Try.underlying22 HI.out.1 HI.out.2.1 HI.out.2.2.1 HI.out.2.2.2 rfl rfl HRW.out rfl (Src.rd 22 60 Try.underlying22 (rd_blk B3.out 3 1 rfl) (entc_one _)) (by unfold maxLen; omega) (by omega) (by omega) ?_; intro a9 cap9 w9 hr9 st9; have G9 : Hid (Dc w (w9.setCell ⟨br, 8, none⟩ (.slice a9 ((readEs (ix + 1) k s5).1.length + 1) cap9)) pp p br _ (⟨kk, ff, tt, ix, l1, c1, d1, false, (readEs (ix + 1) k s5).1 ++ [⟨ix + 1 + (k : Int), (up (readEs (ix + 1) k s5).2).1, (rtext (up (readEs (ix + 1) k s5).2).2 8192).1⟩], []⟩ : Rw) a9 cap9) := Lib.hid (G3.out.grow (e := ⟨ix + 1 + (k : Int), (up (readEs (ix + 1) k s5).2).1, (rtext (up (readEs (ix + 1) k s5).2).2 8192).1⟩) st9 hr9 rfl); have M9 := Lib.hid (G3.out.mid st9); clear hr9 st9; have z8 := M9.out.1.rw; have zl := M9.out.1.lt; have zf := M9.out.1.frozen 8
                  refine hK.out _ _ (Lib.hid ⟨M9.out.2, M9.out.1.rw.2.2.2.1, M9.out.1.lt⟩) (fun hHeld6 => ?_)
                  clear hK K hHeld5
                  try simp only [Act.put, List.setIfInBounds_toArray, List.set_cons_zero, List.set_cons_succ, List.getElem_toArray, List.getElem_cons_zero, List.getElem_cons_succ]
                  refine wpAnyH_take (i := 14) (v := ?_) rfl (by kernel_rfl) (by kernel_rfl) (by kernel_rfl) (fun _ _ _ h => h) (Or.inl ⟨by rfl, ?_⟩) hHeld6 ?_
                  rotate_left
                  · intro w hSw
                    have hSw1 := hSw
                    clear hSw
                    try dsimp only at hSw1
                    go_simp
                    try (with_reducible rfl)
                  try simp only [Act.put, List.setIfInBounds_toArray, List.set_cons_zero, List.set_cons_succ, List.getElem_toArray, List.getElem_cons_zero, List.getElem_cons_succ]
                  refine wpAnyH_ready (rs := [15]) (by kernel_rfl) (by simp) ?_
                  refine AllReadyH.cons rfl (fun K hK => ?_) AllReadyH.nil
                  go_simp
                  skip
                  go_wp2_with fail
                  refine hK.out _ _ (Lib.hid ⟨G9.out.1, G9.out.2.2.2.2.2.1.rw.2.2.2.1, G9.out.2.2.2.2.2.1.lt⟩) (fun hHeld7 => ?_)
                  clear hK K hHeld6
                  try simp only [Act.put, List.setIfInBounds_toArray, List.set_cons_zero, List.set_cons_succ, List.getElem_toArray, List.getElem_cons_zero, List.getElem_cons_succ]
                  refine wpAnyH_done (by kernel_rfl) ?_ _
                  clear z8 zl zf
                  go_wp2_with fail
                  go_roundw
                  case rel => exact ⟨k + 1, a9, cap9, by go_num, by omega, G9.out⟩
                  case measure => simp [intOf]; omega
                · skip
                  go_simp; go_wp2_with fail; refine letter (K := K) ?_; intro U hU; obtain ⟨eb, heb⟩ : ∃ eb, eb = X2.heap.size := ⟨_, rfl⟩; have G3 : Hid (Dc w U pp p br _ (⟨kk, ff, tt, ix, l1, c1, d1, false, (readEs (ix + 1) k s5).1, []⟩ : Rw) a cap) := Lib.hid (by rw [hU]; exact G2.out.quiet ((Step.refl [] _).alloc _)); have B3 : Hid (Blk U eb 60 (entc ⟨ix + 1 + (k : Int), (up (readEs (ix + 1) k s5).2).1, (rtext (up (readEs (ix + 1) k s5).2).2 8192).1⟩).toArray) := Lib.hid (by rw [hU, heb]; exact Blk.new _ _ _); rw [← heb]; clear hU heb
                  refine hK.out _ _ (Lib.hid ⟨G3.out.1, G3.out.2.2.2.2.2.1.rw.2.2.2.1, G3.out.2.2.2.2.2.1.lt⟩) (fun hHeld4 => ?_)
                  clear hK K hHeld3
                  try simp only [Act.put, List.setIfInBounds_toArray, List.set_cons_zero, List.set_cons_succ, List.getElem_toArray, List.getElem_cons_zero, List.getElem_cons_succ]
                  refine wpAnyH_ready (rs := [1]) (by kernel_rfl) (by simp) ?_
                  refine AllReadyH.cons rfl (fun K hK => ?_) AllReadyH.nil
                  have rc := G3.out.2.2.2.2.2.1.rw; have rl := G3.out.2.2.2.2.2.1.lt; go_simp; go_wp2_with fail; clear rc rl
                  refine hK.out _ _ (hHeld4) (fun hHeld5 => ?_)
                  clear hK K hHeld4
                  try simp only [Act.put, List.setIfInBounds_toArray, List.set_cons_zero, List.set_cons_succ, List.getElem_toArray, List.getElem_cons_zero, List.getElem_cons_succ]
                  refine wpAnyH_ready (rs := [13]) (by kernel_rfl) (by simp) ?_
                  refine AllReadyH.cons rfl (fun K hK => ?_) AllReadyH.nil
                  have HRW : Hid (Row U 3 a (readEs (ix + 1) k s5).1.length cap (entcs (readEs (ix + 1) k s5).1)) := Lib.hid G3.out.2.2.2.2.2.2.1; refine step_append_row rfl (.tmp 55) (.tmp 66) 22 22 rfl 60 i0 _ 3 32 Try.underlying22 HI.out.1 HI.out.2.1 HI.out.2.2.1 HI.out.2.2.2 rfl rfl HRW.out rfl (Src.rd 22 60 Try.underlying22 (rd_blk B3.out 3 1 rfl) (entc_one _)) (by unfold maxLen; omega) (by omega) (by omega) ?_; intro a9 cap9 w9 hr9 st9; have G9 : Hid (Dc w (w9.setCell ⟨br, 8, none⟩ (.slice a9 ((readEs (ix + 1) k s5).1.length + 1) cap9)) pp p br _ (⟨kk, ff, tt, ix, l1, c1, d1, false, (readEs (ix + 1) k s5).1 ++ [⟨ix + 1 + (k : Int), (up (readEs (ix + 1) k s5).2).1, (rtext (up (readEs (ix + 1) k s5).2).2 8192).1⟩], []⟩ : Rw) a9 cap9) := Lib.hid (G3.out.grow (e := ⟨ix + 1 + (k : Int), (up (readEs (ix + 1) k s5).2).1, (rtext (up (readEs (ix + 1) k s5).2).2 8192).1⟩) st9 hr9 rfl); have M9 := Lib.hid (G3.out.mid st9); clear hr9 st9; have z8 := M9.out.1.rw; have zl := M9.out.1.lt; have zf := M9.out.1.frozen 8
                  refine hK.out _ _ (Lib.hid ⟨M9.out.2, M9.out.1.rw.2.2.2.1, M9.out.1.lt⟩) (fun hHeld6 => ?_)
                  clear hK K hHeld5
                  try simp only [Act.put, List.setIfInBounds_toArray, List.set_cons_zero, List.set_cons_succ, List.getElem_toArray, List.getElem_cons_zero, List.getElem_cons_succ]
                  refine wpAnyH_take (i := 14) (v := ?_) rfl (by kernel_rfl) (by kernel_rfl) (by kernel_rfl) (fun _ _ _ h => h) (Or.inl ⟨by rfl, ?_⟩) hHeld6 ?_
                  rotate_left
                  · intro w hSw
                    have hSw1 := hSw
                    clear hSw
                    try dsimp only at hSw1
                    go_simp
                    try (with_reducible rfl)
                  try simp only [Act.put, List.setIfInBounds_toArray, List.set_cons_zero, List.set_cons_succ, List.getElem_toArray, List.getElem_cons_zero, List.getElem_cons_succ]
                  refine wpAnyH_ready (rs := [15]) (by kernel_rfl) (by simp) ?_
                  refine AllReadyH.cons rfl (fun K hK => ?_) AllReadyH.nil
                  go_simp
                  skip
                  go_wp2_with fail
                  refine hK.out _ _ (Lib.hid ⟨G9.out.1, G9.out.2.2.2.2.2.1.rw.2.2.2.1, G9.out.2.2.2.2.2.1.lt⟩) (fun hHeld7 => ?_)
                  clear hK K hHeld6
                  try simp only [Act.put, List.setIfInBounds_toArray, List.set_cons_zero, List.set_cons_succ, List.getElem_toArray, List.getElem_cons_zero, List.getElem_cons_succ]
                  refine wpAnyH_done (by kernel_rfl) ?_ _
                  clear z8 zl zf
                  go_wp2_with fail
                  go_roundw
                  case rel => exact ⟨k + 1, a9, cap9, by go_num, by omega, G9.out⟩
                  case measure => simp [intOf]; omega
          · obtain rfl : k = N := by omega
            have HRD : Hid (readM ⟨s, false⟩ = ((⟨3, ff, tt, ix, l1, c1, d1, false, (readEs (ix + 1) k s5).1, []⟩ : Rw), (readEs (ix + 1) k s5).2)) := Lib.hid (by rw [HRM.out, HK.out]; show tail3 3 ff tt sc = _; rw [HN.out.1, HN.out.2, HIX.out.1, HIX.out.2.1, HIX.out.2.2.1, HIX.out.2.2.2.1]; rfl)
            have HIK : Hid (isKind (⟨3, ff, tt, ix, l1, c1, d1, false, (readEs (ix + 1) k s5).1, []⟩ : Rw).kind = true) := Lib.hid rfl
            have HCL : Hid (cleanL (⟨3, ff, tt, ix, l1, c1, d1, false, (readEs (ix + 1) k s5).1, []⟩ : Rw) = (⟨3, ff, tt, ix, l1, c1, d1, false, (readEs (ix + 1) k s5).1, []⟩ : Rw)) := Lib.hid rfl
            have HLN : Hid ((⟨3, ff, tt, ix, l1, c1, d1, false, (readEs (ix + 1) k s5).1, []⟩ : Rw).es.length ≤ 4398046511104 ∧ (⟨3, ff, tt, ix, l1, c1, d1, false, (readEs (ix + 1) k s5).1, []⟩ : Rw).data.length ≤ 1099511627776) := ⟨by simp only; rw [readEs_len]; omega, by simp⟩
            rw [HK.out] at HW
            rw [HK.out]
            have rc := HW.out.2.2.2.2.2.1.rw
            have rl := HW.out.2.2.2.2.2.1.lt
            go_wp2_with fail
            refine (of_any ((⟨3, ff, tt, ix, l1, c1, d1, false, (readEs (ix + 1) k s5).1, []⟩ : Rw)) a cap _ HIK.out HW.out.2.2.2.2.2.2.1.rd HLN.out.1).mono ?_
            rintro e X1 ⟨m, rfl, hm, kx⟩
            have HX := Lib.hid (And.intro hm (And.intro (HW.out.quiet kx) (HW.out.out.trans kx)))
            clear hm kx rc rl
            have pc := HX.out.2.1.ptr
            obtain ⟨rz, hrz⟩ : ∃ rz, rz = rend ((readEs (ix + 1) k s5).2) := ⟨_, rfl⟩
            have HRZ := Lib.hid hrz
            clear hrz
            go_wp2_with fail
            refine (end_any p _ X1 HX.out.2.1.2.1).mono ?_
            rintro e X2 ⟨rfl, rfl⟩
            rw [← HRZ.out]
            by_cases hz : rz = 0
            · have HZ := Lib.hid (hz.symm.trans HRZ.out)
              have hzb : (rz != 0) = false := by simp [hz]
              clear hz
              go_wp2_with fail
              refine bodyPost_ret (results_tmp2 rfl _ _ _) rfl ⟨.inl ⟨_, m, decL_of HRD.out HIK.out HZ.out.symm, rfl, ?_, HLN.out.2⟩, HX.out.2.2⟩
              have h9 := HX.out.1
              rwa [HCL.out] at h9
            · have HZ := Lib.hid (fun e : rend ((readEs (ix + 1) k s5).2) = 0 => hz (HRZ.out.trans e))
              have hzb : (rz != 0) = true := by simp [hz]
              clear hz
              go_wp2_with fail
              exact bodyPost_ret (results_tmp2 rfl _ _ _) rfl ⟨.inr ⟨decL_no HRD.out (.inr HZ.out), rfl⟩, HX.out.2.2⟩
      · have hk3 := hk
        clear hk
        by_cases hk : kk = 4
        · have k1 : (kk == 1) = false := by simp [hk]
          have k2 : (kk == 2) = false := by simp [hk]
          have k3 : (kk == 3) = false := by simp [hk]
          have k4 : (kk == 4) = true := by simp [hk]
          have k5 : (kk == 5) = false := by simp [hk]
          have HK := Lib.hid hk
          clear hk
          have rc := H4.out.2.2.2.2.2.1.rw
          have rl := H4.out.2.2.2.2.2.1.lt
          have rf := H4.out.2.2.2.2.2.1.frozen
          have rf0 := rf 0
          have rf1 := rf 1
          have rf2 := rf 2
          have rf3 := rf 3
          have rf4 := rf 4
          have rf5 := rf 5
          have rf6 := rf 6
          have rf7 := rf 7
          have rf8 := rf 8
          have rf9 := rf 9
          clear rf
          have pc := H4.out.ptr
          clear pc
          go_upto_region 17 with fail
          clear rc rl rf0 rf1 rf2 rf3 rf4 rf5 rf6 rf7 rf8 rf9
          have HPB : Hid (pp ≠ (⟨br, 0, none⟩ : Addr).block) := Lib.hid (fun e => H4.out.2.2.2.2.2.2.2.2.1 e.symm)
          have H4d : Hid (Dc w V4.drew pp p br sc ⟨kk, ff, tt, 0, 0, 0, 0, false, [], []⟩ none 0) := Lib.hid (H4.out.quiet ((Step.refl [] V4).drew))
          refine wp_region_held_drew (S := fun V => Hid (Blk V pp 74 #[.pointer (some ⟨p, 0, none⟩)])) (by kernel_rfl) (Lib.hid H4d.out.1) (fun hHeld => ?_)
          refine wpAnyH_take (i := 0) (v := ?_) rfl (by kernel_rfl) (by kernel_rfl) (by kernel_rfl) (fun _ _ _ h => h) (Or.inl ⟨by rfl, ?_⟩) hHeld ?_
          rotate_left
          · intro w hSw
            have hSw1 := hSw
            clear hSw
            try dsimp only at hSw1
            go_simp
            try (with_reducible rfl)
          try simp only [Act.put, List.setIfInBounds_toArray, List.set_cons_zero, List.set_cons_succ, List.getElem_toArray, List.getElem_cons_zero, List.getElem_cons_succ]
          refine wpAnyH_take (i := 2) (v := ?_) rfl (by kernel_rfl) (by kernel_rfl) (by kernel_rfl) (fun _ _ _ h => h) (Or.inl ⟨by rfl, ?_⟩) hHeld ?_
          rotate_left
          · intro w hSw
            have hSw1 := hSw
            clear hSw
            try dsimp only at hSw1
            go_simp
            try (with_reducible rfl)
          try simp only [Act.put, List.setIfInBounds_toArray, List.set_cons_zero, List.set_cons_succ, List.getElem_toArray, List.getElem_cons_zero, List.getElem_cons_succ]
          refine wpAnyH_take (i := 4) (v := ?_) rfl (by kernel_rfl) (by kernel_rfl) (by kernel_rfl) (fun _ _ _ h => h) (Or.inl ⟨by rfl, ?_⟩) hHeld ?_
          rotate_left
          · intro w hSw
            have hSw1 := hSw
            clear hSw
            have hb0 := hSw1.out.cell 0
            have hb1 := hSw1.out.lt
            simp only [List.getElem?_toArray, List.getElem?_cons_zero, List.getElem?_cons_succ] at hb0
            go_simp
            try (with_reducible rfl)
          try simp only [Act.put, List.setIfInBounds_toArray, List.set_cons_zero, List.set_cons_succ, List.getElem_toArray, List.getElem_cons_zero, List.getElem_cons_succ]
          refine wpAnyH_ready (rs := [1]) (by kernel_rfl) (by simp) ?_
          refine AllReadyH.cons rfl (fun K hK => ?_) AllReadyH.nil
          go_simp
          refine (dc_num H4d.out).mono ?_; rintro e V5 ⟨rfl, t5⟩; have H5 := Lib.hid t5; clear t5
          go_wp2_with fail
          refine hK.out _ _ (Lib.hid H5.out.1) (fun hHeld2 => ?_)
          clear hK K hHeld
          try simp only [Act.put, List.setIfInBounds_toArray, List.set_cons_zero, List.set_cons_succ, List.getElem_toArray, List.getElem_cons_zero, List.getElem_cons_succ]
          refine wpAnyH_take (i := 6) (v := ?_) rfl (by kernel_rfl) (by kernel_rfl) (by kernel_rfl) (fun _ _ _ h => h) (Or.inl ⟨by rfl, ?_⟩) hHeld2 ?_
          rotate_left
          · intro w hSw
            have hSw1 := hSw
            clear hSw
            try dsimp only at hSw1
            go_simp
            try (with_reducible rfl)
          try simp only [Act.put, List.setIfInBounds_toArray, List.set_cons_zero, List.set_cons_succ, List.getElem_toArray, List.getElem_cons_zero, List.getElem_cons_succ]
          refine wpAnyH_ready (rs := [3]) (by kernel_rfl) (by simp) ?_
          refine AllReadyH.cons rfl (fun K hK => ?_) AllReadyH.nil
          go_simp
          refine (dc_num H5.out).mono ?_; rintro e V6 ⟨rfl, t6⟩; have H6 := Lib.hid t6; clear t6
          go_wp2_with fail
          refine hK.out _ _ (Lib.hid H6.out.1) (fun hHeld3 => ?_)
          clear hK K hHeld2
          try simp only [Act.put, List.setIfInBounds_toArray, List.set_cons_zero, List.set_cons_succ, List.getElem_toArray, List.getElem_cons_zero, List.getElem_cons_succ]
          refine wpAnyH_ready (rs := [5]) (by kernel_rfl) (by simp) ?_
          refine AllReadyH.cons rfl (fun K hK => ?_) AllReadyH.nil
          go_simp
          refine (dc_flag H6.out).mono ?_; rintro e V7 ⟨rfl, t7⟩; have H7 := Lib.hid t7; clear t7; have rc := H7.out.2.2.2.2.2.1.rw; have rl := H7.out.2.2.2.2.2.1.lt; have rf := H7.out.2.2.2.2.2.1.frozen; have rf0 := rf 0; have rf1 := rf 1; have rf2 := rf 2; have rf3 := rf 3; have rf4 := rf 4; have rf5 := rf 5; have rf6 := rf 6; have rf7 := rf 7; have rf8 := rf 8; have rf9 := rf 9; clear rf
          go_wp2_with fail
          refine hK.out _ _ (Lib.hid H7.out.1) (fun hHeld4 => ?_)
          clear hK K hHeld3
          try simp only [Act.put, List.setIfInBounds_toArray, List.set_cons_zero, List.set_cons_succ, List.getElem_toArray, List.getElem_cons_zero, List.getElem_cons_succ]
          refine wpAnyH_ready (rs := [7]) (by kernel_rfl) (by simp) ?_
          refine AllReadyH.cons rfl (fun K hK => ?_) AllReadyH.nil
          go_simp
          skip
          go_wp2_with fail
          refine hK.out _ _ (Lib.hid (hHeld4.out.far HPB.out _)) (fun hHeld5 => ?_)
          clear hK K hHeld4
          try simp only [Act.put, List.setIfInBounds_toArray, List.set_cons_zero, List.set_cons_succ, List.getElem_toArray, List.getElem_cons_zero, List.getElem_cons_succ]
          refine wpAnyH_take (i := 8) (v := ?_) rfl (by kernel_rfl) (by kernel_rfl) (by kernel_rfl) (fun _ _ _ h => h) (Or.inl ⟨by rfl, ?_⟩) hHeld5 ?_
          rotate_left
          · intro w hSw
            have hSw1 := hSw
            clear hSw
            try dsimp only at hSw1
            go_simp
            try (with_reducible rfl)
          try simp only [Act.put, List.setIfInBounds_toArray, List.set_cons_zero, List.set_cons_succ, List.getElem_toArray, List.getElem_cons_zero, List.getElem_cons_succ]
          refine wpAnyH_ready (rs := [9]) (by kernel_rfl) (by simp) ?_
          refine AllReadyH.cons rfl (fun K hK => ?_) AllReadyH.nil
          go_simp
          skip
          go_wp2_with fail
          refine hK.out _ _ (Lib.hid (hHeld5.out.far HPB.out _)) (fun hHeld6 => ?_)
          clear hK K hHeld5
          try simp only [Act.put, List.setIfInBounds_toArray, List.set_cons_zero, List.set_cons_succ, List.getElem_toArray, List.getElem_cons_zero, List.getElem_cons_succ]
          refine wpAnyH_take (i := 10) (v := ?_) rfl (by kernel_rfl) (by kernel_rfl) (by kernel_rfl) (fun _ _ _ h => h) (Or.inl ⟨by rfl, ?_⟩) hHeld6 ?_
          rotate_left
          · intro w hSw
            have hSw1 := hSw
            clear hSw
            try dsimp only at hSw1
            go_simp
            try (with_reducible rfl)
          try simp only [Act.put, List.setIfInBounds_toArray, List.set_cons_zero, List.set_cons_succ, List.getElem_toArray, List.getElem_cons_zero, List.getElem_cons_succ]
          refine wpAnyH_ready (rs := [11]) (by kernel_rfl) (by simp) ?_
          refine AllReadyH.cons rfl (fun K hK => ?_) AllReadyH.nil
          go_simp
          skip
          go_wp2_with fail
          refine hK.out _ _ (Lib.hid (hHeld6.out.far HPB.out _)) (fun hHeld7 => ?_)
          clear hK K hHeld6
          try simp only [Act.put, List.setIfInBounds_toArray, List.set_cons_zero, List.set_cons_succ, List.getElem_toArray, List.getElem_cons_zero, List.getElem_cons_succ]
          refine wpAnyH_done (by kernel_rfl) ?_ _
          go_upto_region 20 with fail
          obtain ⟨W, hW⟩ : ∃ W, W = (((V7.setCell ⟨br, 3, none⟩ (.int .i64 (up sc).1)).setCell ⟨br, 6, none⟩ (.int .i64 (up (up sc).2).1)).setCell ⟨br, 7, none⟩ (.bool (rflag (up (up sc).2).2).1)) := ⟨_, rfl⟩
          have H8 : Hid (Dc w W pp p br ((rflag (up (up sc).2).2).2) (⟨kk, ff, tt, (up sc).1, 0, 0, (up (up sc).2).1, (rflag (up (up sc).2).2).1, [], []⟩) none 0) := Lib.hid (H7.out.put (T := []) (by rw [hW]; exact ((((Step.refl [br] V7).setCell (.inl (by simp)) _).setCell (.inl (by simp)) _).setCell (.inl (by simp)) _)) (by rw [hW]; have hq := (((H7.out.2.2.2.2.2.1.set 3 (.int .i64 (up sc).1)).set 6 (.int .i64 (up (up sc).2).1)).set 7 (.bool (rflag (up (up sc).2).2).1)); simpa [rwc] using hq) rfl)
          rw [← hW]
          clear hW rc rl rf0 rf1 rf2 rf3 rf4 rf5 rf6 rf7 rf8 rf9
          have HRD : Hid (readM ⟨s, false⟩ = (⟨4, ff, tt, (up sc).1, 0, 0, (up (up sc).2).1, (rflag (up (up sc).2).2).1, [], []⟩, (rflag (up (up sc).2).2).2)) := Lib.hid (by rw [HRM.out, HK.out]; rfl)
          have HIK : Hid (isKind (⟨4, ff, tt, (up sc).1, 0, 0, (up (up sc).2).1, (rflag (up (up sc).2).2).1, [], []⟩ : Rw).kind = true) := Lib.hid rfl
          have HCL : Hid (cleanL ⟨4, ff, tt, (up sc).1, 0, 0, (up (up sc).2).1, (rflag (up (up sc).2).2).1, [], []⟩ = ⟨4, ff, tt, (up sc).1, 0, 0, (up (up sc).2).1, (rflag (up (up sc).2).2).1, [], []⟩) := Lib.hid rfl
          have HLN : Hid ((⟨4, ff, tt, (up sc).1, 0, 0, (up (up sc).2).1, (rflag (up (up sc).2).2).1, [], []⟩ : Rw).es.length ≤ 4398046511104 ∧ (⟨4, ff, tt, (up sc).1, 0, 0, (up (up sc).2).1, (rflag (up (up sc).2).2).1, [], []⟩ : Rw).data.length ≤ 1099511627776) := ⟨by simp, (by simp)⟩
          rw [HK.out] at H8
          rw [HK.out]
          have rc := H8.out.2.2.2.2.2.1.rw
          have rl := H8.out.2.2.2.2.2.1.lt
          go_wp2_with fail
          refine (of_any (⟨4, ff, tt, (up sc).1, 0, 0, (up (up sc).2).1, (rflag (up (up sc).2).2).1, [], []⟩) none 0 _ HIK.out H8.out.2.2.2.2.2.2.1.rd HLN.out.1).mono ?_
          rintro e X1 ⟨m, rfl, hm, kx⟩
          have HX := Lib.hid (And.intro hm (And.intro (H8.out.quiet kx) (H8.out.out.trans kx)))
          clear hm kx rc rl
          have pc := HX.out.2.1.ptr
          obtain ⟨rz, hrz⟩ : ∃ rz, rz = rend ((rflag (up (up sc).2).2).2) := ⟨_, rfl⟩
          have HRZ := Lib.hid hrz
          clear hrz
          go_wp2_with fail
          refine (end_any p _ X1 HX.out.2.1.2.1).mono ?_
          rintro e X2 ⟨rfl, rfl⟩
          rw [← HRZ.out]
          by_cases hz : rz = 0
          · have HZ := Lib.hid (hz.symm.trans HRZ.out)
            have hzb : (rz != 0) = false := by simp [hz]
            clear hz
            go_wp2_with fail
            refine bodyPost_ret (results_tmp2 rfl _ _ _) rfl ⟨.inl ⟨_, m, decL_of HRD.out HIK.out HZ.out.symm, rfl, ?_, HLN.out.2⟩, HX.out.2.2⟩
            have h9 := HX.out.1
            rwa [HCL.out] at h9
          · have HZ := Lib.hid (fun e : rend ((rflag (up (up sc).2).2).2) = 0 => hz (HRZ.out.trans e))
            have hzb : (rz != 0) = true := by simp [hz]
            clear hz
            go_wp2_with fail
            exact bodyPost_ret (results_tmp2 rfl _ _ _) rfl ⟨.inr ⟨decL_no HRD.out (.inr HZ.out), rfl⟩, HX.out.2.2⟩
        · have hk4 := hk
          clear hk
          by_cases hk : kk = 5
          · have k1 : (kk == 1) = false := by simp [hk]
            have k2 : (kk == 2) = false := by simp [hk]
            have k3 : (kk == 3) = false := by simp [hk]
            have k4 : (kk == 4) = false := by simp [hk]
            have k5 : (kk == 5) = true := by simp [hk]
            have HK := Lib.hid hk
            clear hk
            have rc := H4.out.2.2.2.2.2.1.rw
            have rl := H4.out.2.2.2.2.2.1.lt
            have rf := H4.out.2.2.2.2.2.1.frozen
            have rf0 := rf 0
            have rf1 := rf 1
            have rf2 := rf 2
            have rf3 := rf 3
            have rf4 := rf 4
            have rf5 := rf 5
            have rf6 := rf 6
            have rf7 := rf 7
            have rf8 := rf 8
            have rf9 := rf 9
            clear rf
            have pc := H4.out.ptr
            clear pc
            go_upto_region 19 with fail
            clear rc rl rf0 rf1 rf2 rf3 rf4 rf5 rf6 rf7 rf8 rf9
            have HPB : Hid (pp ≠ (⟨br, 0, none⟩ : Addr).block) := Lib.hid (fun e => H4.out.2.2.2.2.2.2.2.2.1 e.symm)
            have H4d : Hid (Dc w V4.drew pp p br sc ⟨kk, ff, tt, 0, 0, 0, 0, false, [], []⟩ none 0) := Lib.hid (H4.out.quiet ((Step.refl [] V4).drew))
            refine wp_region_held_drew (S := fun V => Hid (Blk V pp 74 #[.pointer (some ⟨p, 0, none⟩)])) (by kernel_rfl) (Lib.hid H4d.out.1) (fun hHeld => ?_)
            refine wpAnyH_take (i := 0) (v := ?_) rfl (by kernel_rfl) (by kernel_rfl) (by kernel_rfl) (fun _ _ _ h => h) (Or.inl ⟨by rfl, ?_⟩) hHeld ?_
            rotate_left
            · intro w hSw
              have hSw1 := hSw
              clear hSw
              try dsimp only at hSw1
              go_simp
              try (with_reducible rfl)
            try simp only [Act.put, List.setIfInBounds_toArray, List.set_cons_zero, List.set_cons_succ, List.getElem_toArray, List.getElem_cons_zero, List.getElem_cons_succ]
            refine wpAnyH_take (i := 2) (v := ?_) rfl (by kernel_rfl) (by kernel_rfl) (by kernel_rfl) (fun _ _ _ h => h) (Or.inl ⟨by rfl, ?_⟩) hHeld ?_
            rotate_left
            · intro w hSw
              have hSw1 := hSw
              clear hSw
              try dsimp only at hSw1
              go_simp
              try (with_reducible rfl)
            try simp only [Act.put, List.setIfInBounds_toArray, List.set_cons_zero, List.set_cons_succ, List.getElem_toArray, List.getElem_cons_zero, List.getElem_cons_succ]
            refine wpAnyH_take (i := 4) (v := ?_) rfl (by kernel_rfl) (by kernel_rfl) (by kernel_rfl) (fun _ _ _ h => h) (Or.inl ⟨by rfl, ?_⟩) hHeld ?_
            rotate_left
            · intro w hSw
              have hSw1 := hSw
              clear hSw
              try dsimp only at hSw1
              go_simp
              try (with_reducible rfl)
            try simp only [Act.put, List.setIfInBounds_toArray, List.set_cons_zero, List.set_cons_succ, List.getElem_toArray, List.getElem_cons_zero, List.getElem_cons_succ]
            refine wpAnyH_take (i := 6) (v := ?_) rfl (by kernel_rfl) (by kernel_rfl) (by kernel_rfl) (fun _ _ _ h => h) (Or.inl ⟨by rfl, ?_⟩) hHeld ?_
            rotate_left
            · intro w hSw
              have hSw1 := hSw
              clear hSw
              have hb0 := hSw1.out.cell 0
              have hb1 := hSw1.out.lt
              simp only [List.getElem?_toArray, List.getElem?_cons_zero, List.getElem?_cons_succ] at hb0
              go_simp
              try (with_reducible rfl)
            try simp only [Act.put, List.setIfInBounds_toArray, List.set_cons_zero, List.set_cons_succ, List.getElem_toArray, List.getElem_cons_zero, List.getElem_cons_succ]
            refine wpAnyH_ready (rs := [1]) (by kernel_rfl) (by simp) ?_
            refine AllReadyH.cons rfl (fun K hK => ?_) AllReadyH.nil
            go_simp
            refine (dc_num H4d.out).mono ?_; rintro e V5 ⟨rfl, t5⟩; have H5 := Lib.hid t5; clear t5
            go_wp2_with fail
            refine hK.out _ _ (Lib.hid H5.out.1) (fun hHeld2 => ?_)
            clear hK K hHeld
            try simp only [Act.put, List.setIfInBounds_toArray, List.set_cons_zero, List.set_cons_succ, List.getElem_toArray, List.getElem_cons_zero, List.getElem_cons_succ]
            refine wpAnyH_take (i := 8) (v := ?_) rfl (by kernel_rfl) (by kernel_rfl) (by kernel_rfl) (fun _ _ _ h => h) (Or.inl ⟨by rfl, ?_⟩) hHeld2 ?_
            rotate_left
            · intro w hSw
              have hSw1 := hSw
              clear hSw
              try dsimp only at hSw1
              go_simp
              try (with_reducible rfl)
            try simp only [Act.put, List.setIfInBounds_toArray, List.set_cons_zero, List.set_cons_succ, List.getElem_toArray, List.getElem_cons_zero, List.getElem_cons_succ]
            refine wpAnyH_ready (rs := [3]) (by kernel_rfl) (by simp) ?_
            refine AllReadyH.cons rfl (fun K hK => ?_) AllReadyH.nil
            go_simp
            refine (dc_num H5.out).mono ?_; rintro e V6 ⟨rfl, t6⟩; have H6 := Lib.hid t6; clear t6
            go_wp2_with fail
            refine hK.out _ _ (Lib.hid H6.out.1) (fun hHeld3 => ?_)
            clear hK K hHeld2
            try simp only [Act.put, List.setIfInBounds_toArray, List.set_cons_zero, List.set_cons_succ, List.getElem_toArray, List.getElem_cons_zero, List.getElem_cons_succ]
            refine wpAnyH_ready (rs := [5]) (by kernel_rfl) (by simp) ?_
            refine AllReadyH.cons rfl (fun K hK => ?_) AllReadyH.nil
            go_simp
            refine (dc_num H6.out).mono ?_; rintro e V7 ⟨rfl, t7⟩; have H7 := Lib.hid t7; clear t7
            go_wp2_with fail
            refine hK.out _ _ (Lib.hid H7.out.1) (fun hHeld4 => ?_)
            clear hK K hHeld3
            try simp only [Act.put, List.setIfInBounds_toArray, List.set_cons_zero, List.set_cons_succ, List.getElem_toArray, List.getElem_cons_zero, List.getElem_cons_succ]
            refine wpAnyH_ready (rs := [7]) (by kernel_rfl) (by simp) ?_
            refine AllReadyH.cons rfl (fun K hK => ?_) AllReadyH.nil
            go_simp
            refine (dc_text H7.out 1048576).mono ?_; rintro e V8 ⟨rfl, t8⟩; have H8 := Lib.hid t8; clear t8; have rc := H8.out.2.2.2.2.2.1.rw; have rl := H8.out.2.2.2.2.2.1.lt; have rf := H8.out.2.2.2.2.2.1.frozen; have rf0 := rf 0; have rf1 := rf 1; have rf2 := rf 2; have rf3 := rf 3; have rf4 := rf 4; have rf5 := rf 5; have rf6 := rf 6; have rf7 := rf 7; have rf8 := rf 8; have rf9 := rf 9; clear rf
            go_wp2_with fail
            refine hK.out _ _ (Lib.hid H8.out.1) (fun hHeld5 => ?_)
            clear hK K hHeld4
            try simp only [Act.put, List.setIfInBounds_toArray, List.set_cons_zero, List.set_cons_succ, List.getElem_toArray, List.getElem_cons_zero, List.getElem_cons_succ]
            refine wpAnyH_ready (rs := [9]) (by kernel_rfl) (by simp) ?_
            refine AllReadyH.cons rfl (fun K hK => ?_) AllReadyH.nil
            go_simp
            skip
            go_wp2_with fail
            refine hK.out _ _ (Lib.hid (hHeld5.out.far HPB.out _)) (fun hHeld6 => ?_)
            clear hK K hHeld5
            try simp only [Act.put, List.setIfInBounds_toArray, List.set_cons_zero, List.set_cons_succ, List.getElem_toArray, List.getElem_cons_zero, List.getElem_cons_succ]
            refine wpAnyH_take (i := 10) (v := ?_) rfl (by kernel_rfl) (by kernel_rfl) (by kernel_rfl) (fun _ _ _ h => h) (Or.inl ⟨by rfl, ?_⟩) hHeld6 ?_
            rotate_left
            · intro w hSw
              have hSw1 := hSw
              clear hSw
              try dsimp only at hSw1
              go_simp
              try (with_reducible rfl)
            try simp only [Act.put, List.setIfInBounds_toArray, List.set_cons_zero, List.set_cons_succ, List.getElem_toArray, List.getElem_cons_zero, List.getElem_cons_succ]
            refine wpAnyH_ready (rs := [11]) (by kernel_rfl) (by simp) ?_
            refine AllReadyH.cons rfl (fun K hK => ?_) AllReadyH.nil
            go_simp
            skip
            go_wp2_with fail
            refine hK.out _ _ (Lib.hid (hHeld6.out.far HPB.out _)) (fun hHeld7 => ?_)
            clear hK K hHeld6
            try simp only [Act.put, List.setIfInBounds_toArray, List.set_cons_zero, List.set_cons_succ, List.getElem_toArray, List.getElem_cons_zero, List.getElem_cons_succ]
            refine wpAnyH_take (i := 12) (v := ?_) rfl (by kernel_rfl) (by kernel_rfl) (by kernel_rfl) (fun _ _ _ h => h) (Or.inl ⟨by rfl, ?_⟩) hHeld7 ?_
            rotate_left
            · intro w hSw
              have hSw1 := hSw
              clear hSw
              try dsimp only at hSw1
              go_simp
              try (with_reducible rfl)
            try simp only [Act.put, List.setIfInBounds_toArray, List.set_cons_zero, List.set_cons_succ, List.getElem_toArray, List.getElem_cons_zero, List.getElem_cons_succ]
            refine wpAnyH_ready (rs := [13]) (by kernel_rfl) (by simp) ?_
            refine AllReadyH.cons rfl (fun K hK => ?_) AllReadyH.nil
            go_simp
            skip
            go_wp2_with fail
            refine hK.out _ _ (Lib.hid (hHeld7.out.far HPB.out _)) (fun hHeld8 => ?_)
            clear hK K hHeld7
            try simp only [Act.put, List.setIfInBounds_toArray, List.set_cons_zero, List.set_cons_succ, List.getElem_toArray, List.getElem_cons_zero, List.getElem_cons_succ]
            refine wpAnyH_take (i := 14) (v := ?_) rfl (by kernel_rfl) (by kernel_rfl) (by kernel_rfl) (fun _ _ _ h => h) (Or.inl ⟨by rfl, ?_⟩) hHeld8 ?_
            rotate_left
            · intro w hSw
              have hSw1 := hSw
              clear hSw
              try dsimp only at hSw1
              go_simp
              try (with_reducible rfl)
            try simp only [Act.put, List.setIfInBounds_toArray, List.set_cons_zero, List.set_cons_succ, List.getElem_toArray, List.getElem_cons_zero, List.getElem_cons_succ]
            refine wpAnyH_ready (rs := [15]) (by kernel_rfl) (by simp) ?_
            refine AllReadyH.cons rfl (fun K hK => ?_) AllReadyH.nil
            go_simp
            skip
            go_wp2_with fail
            refine hK.out _ _ (Lib.hid (hHeld8.out.far HPB.out _)) (fun hHeld9 => ?_)
            clear hK K hHeld8
            try simp only [Act.put, List.setIfInBounds_toArray, List.set_cons_zero, List.set_cons_succ, List.getElem_toArray, List.getElem_cons_zero, List.getElem_cons_succ]
            refine wpAnyH_done (by kernel_rfl) ?_ _
            go_upto_region 20 with fail
            obtain ⟨W, hW⟩ : ∃ W, W = ((((V8.setCell ⟨br, 3, none⟩ (.int .i64 (up sc).1)).setCell ⟨br, 4, none⟩ (.int .i64 (up (up sc).2).1)).setCell ⟨br, 6, none⟩ (.int .i64 (up (up (up sc).2).2).1)).setCell ⟨br, 9, none⟩ (Str (rtext (up (up (up sc).2).2).2 1048576).1)) := ⟨_, rfl⟩
            have H9 : Hid (Dc w W pp p br ((rtext (up (up (up sc).2).2).2 1048576).2) (⟨kk, ff, tt, (up sc).1, (up (up sc).2).1, 0, (up (up (up sc).2).2).1, false, [], (rtext (up (up (up sc).2).2).2 1048576).1⟩) none 0) := Lib.hid (H8.out.put (T := []) (by rw [hW]; exact (((((Step.refl [br] V8).setCell (.inl (by simp)) _).setCell (.inl (by simp)) _).setCell (.inl (by simp)) _).setCell (.inl (by simp)) _)) (by rw [hW]; have hq := ((((H8.out.2.2.2.2.2.1.set 3 (.int .i64 (up sc).1)).set 4 (.int .i64 (up (up sc).2).1)).set 6 (.int .i64 (up (up (up sc).2).2).1)).set 9 (Str (rtext (up (up (up sc).2).2).2 1048576).1)); simpa [rwc] using hq) rfl)
            rw [← hW]
            clear hW rc rl rf0 rf1 rf2 rf3 rf4 rf5 rf6 rf7 rf8 rf9
            have HRD : Hid (readM ⟨s, false⟩ = (⟨5, ff, tt, (up sc).1, (up (up sc).2).1, 0, (up (up (up sc).2).2).1, false, [], (rtext (up (up (up sc).2).2).2 1048576).1⟩, (rtext (up (up (up sc).2).2).2 1048576).2)) := Lib.hid (by rw [HRM.out, HK.out]; rfl)
            have HIK : Hid (isKind (⟨5, ff, tt, (up sc).1, (up (up sc).2).1, 0, (up (up (up sc).2).2).1, false, [], (rtext (up (up (up sc).2).2).2 1048576).1⟩ : Rw).kind = true) := Lib.hid rfl
            have HCL : Hid (cleanL ⟨5, ff, tt, (up sc).1, (up (up sc).2).1, 0, (up (up (up sc).2).2).1, false, [], (rtext (up (up (up sc).2).2).2 1048576).1⟩ = ⟨5, ff, tt, (up sc).1, (up (up sc).2).1, 0, (up (up (up sc).2).2).1, false, [], (rtext (up (up (up sc).2).2).2 1048576).1⟩) := Lib.hid rfl
            have HLN : Hid ((⟨5, ff, tt, (up sc).1, (up (up sc).2).1, 0, (up (up (up sc).2).2).1, false, [], (rtext (up (up (up sc).2).2).2 1048576).1⟩ : Rw).es.length ≤ 4398046511104 ∧ (⟨5, ff, tt, (up sc).1, (up (up sc).2).1, 0, (up (up (up sc).2).2).1, false, [], (rtext (up (up (up sc).2).2).2 1048576).1⟩ : Rw).data.length ≤ 1099511627776) := ⟨by simp, (by have := text_most (up (up (up sc).2).2).2 1048576 (by omega); simp only; omega)⟩
            rw [HK.out] at H9
            rw [HK.out]
            have rc := H9.out.2.2.2.2.2.1.rw
            have rl := H9.out.2.2.2.2.2.1.lt
            go_wp2_with fail
            refine (of_any (⟨5, ff, tt, (up sc).1, (up (up sc).2).1, 0, (up (up (up sc).2).2).1, false, [], (rtext (up (up (up sc).2).2).2 1048576).1⟩) none 0 _ HIK.out H9.out.2.2.2.2.2.2.1.rd HLN.out.1).mono ?_
            rintro e X1 ⟨m, rfl, hm, kx⟩
            have HX := Lib.hid (And.intro hm (And.intro (H9.out.quiet kx) (H9.out.out.trans kx)))
            clear hm kx rc rl
            have pc := HX.out.2.1.ptr
            obtain ⟨rz, hrz⟩ : ∃ rz, rz = rend ((rtext (up (up (up sc).2).2).2 1048576).2) := ⟨_, rfl⟩
            have HRZ := Lib.hid hrz
            clear hrz
            go_wp2_with fail
            refine (end_any p _ X1 HX.out.2.1.2.1).mono ?_
            rintro e X2 ⟨rfl, rfl⟩
            rw [← HRZ.out]
            by_cases hz : rz = 0
            · have HZ := Lib.hid (hz.symm.trans HRZ.out)
              have hzb : (rz != 0) = false := by simp [hz]
              clear hz
              go_wp2_with fail
              refine bodyPost_ret (results_tmp2 rfl _ _ _) rfl ⟨.inl ⟨_, m, decL_of HRD.out HIK.out HZ.out.symm, rfl, ?_, HLN.out.2⟩, HX.out.2.2⟩
              have h9 := HX.out.1
              rwa [HCL.out] at h9
            · have HZ := Lib.hid (fun e : rend ((rtext (up (up (up sc).2).2).2 1048576).2) = 0 => hz (HRZ.out.trans e))
              have hzb : (rz != 0) = true := by simp [hz]
              clear hz
              go_wp2_with fail
              exact bodyPost_ret (results_tmp2 rfl _ _ _) rfl ⟨.inr ⟨decL_no HRD.out (.inr HZ.out), rfl⟩, HX.out.2.2⟩
          · have hk5 := hk
            clear hk
            have k1 : (kk == 1) = false := by simp; omega
            have k2 : (kk == 2) = false := by simp; omega
            have k3 : (kk == 3) = false := by simp; omega
            have k4 : (kk == 4) = false := by simp; omega
            have k5 : (kk == 5) = false := by simp; omega
            have HIK : Hid (isKind (⟨kk, ff, tt, 0, 0, 0, 0, false, [], []⟩ : Rw).kind = false) := Lib.hid (by simp [isKind]; omega)
            have HRD : Hid (readM ⟨s, false⟩ = (⟨kk, ff, tt, 0, 0, 0, 0, false, [], []⟩, sc)) := Lib.hid (by rw [HRM.out, readK, if_neg (by omega), if_neg (by omega), if_neg (by omega), if_neg (by omega), if_neg (by omega)])
            clear hk1 hk2 hk3 hk4 hk5
            have rc := H4.out.2.2.2.2.2.1.rw
            have rl := H4.out.2.2.2.2.2.1.lt
            go_wp2_with fail
            refine (of_none (⟨kk, ff, tt, 0, 0, 0, 0, false, [], []⟩) none 0 _ HIK.out).mono ?_
            rintro e X1 ⟨rfl, kx⟩
            have HX := Lib.hid (H4.out.out.trans kx)
            clear kx rc rl
            go_wp2_with fail
            exact bodyPost_ret (results_tmp2 rfl _ _ _) rfl ⟨.inr ⟨decL_no HRD.out (.inl HIK.out), rfl⟩, HX.out⟩
end Go.Proofs.Ytihklmomipidaaa
