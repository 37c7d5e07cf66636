/-
  The reference's Read: the right flat form whose bytes these are. Condition: at most 2^40 bytes.
-/
import Derived.Test.YtihklmomipidaaaMsgJ
import Derived.Test.YtihklmomipidaaaPackRefR
namespace Go.Proofs.Ytihklmomipidaaa
open Go.RowKit
set_option linter.unusedSimpArgs false
set_option linter.unusedVariables false
set_option maxRecDepth 100000

/-- What stands while the reference reads: the answer's block, its reader, its flat form with an own slice of entries. -/
def Rc (w0 w : World) (b0 p br : Nat) (st : RS) (r : Rw) (a : Option Addr) (cap : Nat) : Prop :=
  Blk w b0 24 #[.int .i64 0, .int .i64 0, .int .i64 0, .int .i64 0, .int .i64 0, .int .i64 0, .int .i64 0, .bool false, .slice none 0 0, .string ⟨#[]⟩] ∧ Ref w p st ∧ Blk w br 24 (rwc r (.slice a r.es.length cap)).toArray ∧ Row w 3 a r.es.length cap (entcs r.es) ∧ (b0 ≠ p ∧ b0 ≠ br ∧ p ≠ br) ∧ (∀ g, g ∈ blks a → g ≠ b0 ∧ g ≠ p ∧ g ≠ br) ∧ Step [] (b0 :: p :: br :: blks a) w0 w ∧ st.s.length ≤ 1099511627776 ∧ w0.heap.size ≤ b0
section
variable {w0 w w' : World} {b0 p br : Nat} {st : RS} {r : Rw} {a : Option Addr} {cap : Nat}
theorem Rc.len (h : Rc w0 w b0 p br st r a cap) : st.s.length < 4611686018427387904 := by
  have := h.2.2.2.2.2.2.2.1
  omega
theorem Rc.quiet (h : Rc w0 w b0 p br st r a cap) (k : Step [] [] w w') : Rc w0 w' b0 p br st r a cap := by
  obtain ⟨h1, h2, h3, h4, h5, h6, h7, h8, h9⟩ := h
  exact ⟨h1.step k (by simp), h2.step k (by simp), h3.step k (by simp), h4.step k (by simp), h5, h6, h7.trans (by simpa using k.frame (b0 :: p :: br :: blks a)), h8, h9⟩
theorem Rc.read {st' : RS} (h : Rc w0 w b0 p br st r a cap) (g : Ref w' p st') (k : Step [p] [p] w w') (hl : st'.s.length ≤ st.s.length) : Rc w0 w' b0 p br st' r a cap := by
  obtain ⟨h1, h2, h3, h4, h5, h6, h7, h8, h9⟩ := h
  exact ⟨h1.step k (by simpa using h5.1), g, h3.step k (by simpa using h5.2.2.symm), h4.step k (fun j hj => by simpa using (h6 j hj).2.1), h5, h6, h7.trans (k.wide (T := b0 :: p :: br :: blks a) (S'' := b0 :: p :: br :: blks a) (by simp) (fun g hg => .inl hg)), by omega, h9⟩
theorem Rc.put {r' : Rw} (h : Rc w0 w b0 p br st r a cap) (ss : Step [br] [br] w w') (hb : Blk w' br 24 (rwc r' (.slice a r'.es.length cap)).toArray) (he : r'.es = r.es) : Rc w0 w' b0 p br st r' a cap := by
  obtain ⟨h1, h2, h3, h4, h5, h6, h7, h8, h9⟩ := h
  refine ⟨h1.step ss (by simpa using h5.2.1), h2.step ss (by simpa using h5.2.2), hb, ?_, h5, h6, h7.trans (ss.wide (T := b0 :: p :: br :: blks a) (S'' := b0 :: p :: br :: blks a) (by simp) (fun g hg => .inl hg)), h8, h9⟩
  rw [he]
  exact h4.step ss (fun j hj => by simpa using (h6 j hj).2.2)
theorem rc_num (h : Rc w0 w b0 p br st r a cap) (m : Int) : Calls Try.prog 38 #[.pointer (some ⟨p, 0, none⟩), .int .i64 m] w fun e w' => e = .returned (.int .i64 (upto st m).1) ∧ Rc w0 w' b0 p br (upto st m).2 r a cap := by
  refine (refNum_any p st m w h.2.1 h.len).mono ?_
  rintro e w' ⟨he, g, k⟩
  exact ⟨he, h.read g k (upto_len st _)⟩
theorem rc_up (h : Rc w0 w b0 p br st r a cap) : Calls Try.prog 38 #[.pointer (some ⟨p, 0, none⟩), .int .i64 1099511627776] w fun e w' => e = .returned (.int .i64 (up st).1) ∧ Rc w0 w' b0 p br (up st).2 r a cap := rc_num h 1099511627776
theorem rc_text (h : Rc w0 w b0 p br st r a cap) (m : Int) : Calls Try.prog 39 #[.pointer (some ⟨p, 0, none⟩), .int .i64 m] w fun e w' => e = .returned (Str (rtext st m).1) ∧ Rc w0 w' b0 p br (rtext st m).2 r a cap := by
  refine (refText_any p st m w h.2.1 h.len).mono ?_
  rintro e w' ⟨he, g, k⟩
  exact ⟨he, h.read g k (rtext_len2 st m)⟩
theorem rc_flag (h : Rc w0 w b0 p br st r a cap) : Calls Try.prog 40 #[.pointer (some ⟨p, 0, none⟩)] w fun e w' => e = .returned (.bool (rflag st).1) ∧ Rc w0 w' b0 p br (rflag st).2 r a cap := by
  refine (refFlag_any p st w h.2.1 h.len).mono ?_
  rintro e w' ⟨he, g, k⟩
  exact ⟨he, h.read g k (upto_len st _)⟩
/-- The entries have grown by one. -/
theorem Rc.grow {a9 : Option Addr} {cap9 : Nat} {e : Ent} {r' : Rw} (h : Rc w0 w b0 p br st r a cap) (st9 : Step (blks a) (blks a9) w w') (hr9 : Row w' 3 a9 (r.es.length + 1) cap9 (entcs r.es ++ entc e)) (hr' : r' = { r with es := r.es ++ [e] }) :
    Rc w0 (w'.setCell ⟨br, 8, none⟩ (.slice a9 (r.es.length + 1) cap9)) b0 p br st r' a9 cap9 := by
  subst hr'
  obtain ⟨h1, h2, h3, h4, h5, h6, h7, h8, h9⟩ := h
  have n0 : b0 ∉ blks a := fun hg => (h6 b0 hg).1 rfl
  have np : p ∉ blks a := fun hg => (h6 p hg).2.1 rfl
  have nbr : br ∉ blks a := fun hg => (h6 br hg).2.2 rfl
  have m0 := st9.notin h1.lt n0
  have mp := st9.notin (Blk.lt h2) np
  have mbr := st9.notin h3.lt nbr
  have ss : Step [br] [br] w' (w'.setCell ⟨br, 8, none⟩ (.slice a9 (r.es.length + 1) cap9)) := (Step.refl _ w').setCell (.inl (by simp)) _
  refine ⟨(h1.step st9 n0).step ss (by simpa using h5.2.1), (h2.step st9 np).step ss (by simpa using h5.2.2), ?_, ?_, h5, fun g hg => ⟨fun e => m0 (e ▸ hg), fun e => mp (e ▸ hg), fun e => mbr (e ▸ hg)⟩, ?_, h8, h9⟩
  · have := (h3.step st9 nbr).set 8 (.slice a9 (r.es.length + 1) cap9)
    simpa [rwc] using this
  · have := hr9.step ss (fun g hg e => by simp at e; subst e; exact mbr hg)
    simpa [entcs] using this
  · have k := h7.trans (by simpa using st9.frame [b0, p, br])
    exact k.setCell (.inl (by simp)) _
theorem Rc.mid {a9 : Option Addr} (h : Rc w0 w b0 p br st r a cap) (st9 : Step (blks a) (blks a9) w w') : Blk w' br 24 (rwc r (.slice a r.es.length cap)).toArray := h.2.2.1.step st9 (fun hg => (h.2.2.2.2.2.1 br hg).2.2 rfl)
end
/-- What the reference reads. -/
def ReadPost (s : List UInt8) (w : World) (e : Ending) (w' : World) : Prop :=
  ((∃ r a cap, decL s = some r ∧ e = .returned (.tuple #[rwV r (.slice a r.es.length cap), .bool true]) ∧ Rd w' 3 a r.es.length (entcs r.es)) ∨ (decL s = none ∧ e = .returned (.tuple #[rwV rwZ (.slice none 0 0), .bool false]))) ∧ Step [] [] w w'

set_option maxHeartbeats 8000000 in
theorem refRead_any (s : List UInt8) (w : World) (hs : s.length ≤ 1099511627776) : Calls Try.prog 18 #[Str s] w (ReadPost s w) := by
  have HS := Lib.hid hs
  clear hs
  go_enter Try.func18, Try.ntmps18
  go_upto_region 3 with fail
  obtain ⟨b0, hb⟩ : ∃ b, b = w.heap.size := ⟨_, rfl⟩
  obtain ⟨V, hV⟩ : ∃ V, V = (((w.alloc (.cells #[.int .i64 0, .int .i64 0, .int .i64 0, .int .i64 0, .int .i64 0, .int .i64 0, .int .i64 0, .bool false, .slice none 0 0, .string ⟨#[]⟩] 24)).alloc (.cells #[Str s, .bool false] 86)).alloc (.cells #[.int .i64 0, .int .i64 0, .int .i64 0, .int .i64 0, .int .i64 0, .int .i64 0, .int .i64 0, .bool false, .slice none 0 0, .string ⟨#[]⟩] 24)) := ⟨_, rfl⟩
  obtain ⟨p, hp⟩ : ∃ p, p = b0 + 1 := ⟨_, rfl⟩
  obtain ⟨br, hbr⟩ : ∃ br, br = b0 + 1 + 1 := ⟨_, rfl⟩
  have H0 : Hid (Rc w V b0 p br ⟨s, false⟩ ⟨0, 0, 0, 0, 0, 0, 0, false, [], []⟩ none 0) := Lib.hid (by
    have B := blk3w w 24 86 24 #[.int .i64 0, .int .i64 0, .int .i64 0, .int .i64 0, .int .i64 0, .int .i64 0, .int .i64 0, .bool false, .slice none 0 0, .string ⟨#[]⟩] #[Str s, .bool false] #[.int .i64 0, .int .i64 0, .int .i64 0, .int .i64 0, .int .i64 0, .int .i64 0, .int .i64 0, .bool false, .slice none 0 0, .string ⟨#[]⟩]
    have k : Step [] [w.heap.size, w.heap.size + 1, w.heap.size + 1 + 1] w V := by
      have k3 := ((((Step.refl [] w).hold (.cells #[.int .i64 0, .int .i64 0, .int .i64 0, .int .i64 0, .int .i64 0, .int .i64 0, .int .i64 0, .bool false, .slice none 0 0, .string ⟨#[]⟩] 24)).hold (.cells #[Str s, .bool false] 86)).hold (.cells #[.int .i64 0, .int .i64 0, .int .i64 0, .int .i64 0, .int .i64 0, .int .i64 0, .int .i64 0, .bool false, .slice none 0 0, .string ⟨#[]⟩] 24))
      rw [hV]
      exact k3.drop (by intro g hg; simp at hg ⊢; omega)
    rw [← hV] at B
    rw [hbr, hp, hb]
    exact ⟨B.1, B.2.1, B.2.2, Row.none _ _, ⟨by omega, by omega, by omega⟩, by simp [blks], k.drop (by simp [blks]), HS.out, Nat.le_refl _⟩)
  first
    | rw [← hV]
    | rw [show (((w.alloc (.cells #[.int .i64 0, .int .i64 0, .int .i64 0, .int .i64 0, .int .i64 0, .int .i64 0, .int .i64 0, .bool false, .slice none 0 0, .string ⟨#[]⟩] 24)).alloc (.cells #[.string ⟨s.toArray⟩, .bool false] 86)).alloc (.cells #[.int .i64 0, .int .i64 0, .int .i64 0, .int .i64 0, .int .i64 0, .int .i64 0, .int .i64 0, .bool false, .slice none 0 0, .string ⟨#[]⟩] 24)) = V from hV.symm]
  rw [← hb, ← hp]
  try rw [← hp]
  rw [show p + 1 = br by omega]
  clear hV hb hp hbr
  have rc := H0.out.2.2.1.rw
  have rl := H0.out.2.2.1.lt
  have rf_ := H0.out.2.2.1.frozen
  have rf0 := rf_ 0
  have rf1 := rf_ 1
  have rf2 := rf_ 2
  have rf3 := rf_ 3
  have rf4 := rf_ 4
  have rf5 := rf_ 5
  have rf6 := rf_ 6
  have rf7 := rf_ 7
  have rf8 := rf_ 8
  have rf9 := rf_ 9
  clear rf_
  go_wp2_with fail
  refine (rc_up H0.out).mono ?_
  rintro e V1 ⟨rfl, t1⟩
  obtain ⟨kk, hkk⟩ : ∃ kk, kk = (up ⟨s, false⟩).1 := ⟨_, rfl⟩
  obtain ⟨sa, hsa⟩ : ∃ sa, sa = (up ⟨s, false⟩).2 := ⟨_, rfl⟩
  rw [← hsa] at t1
  rw [← hkk]
  have HV1 := Lib.hid (And.intro hkk hsa)
  clear hkk hsa
  have G1 : Hid (Rc w V1 b0 p br sa (⟨0, 0, 0, 0, 0, 0, 0, false, [], []⟩) none 0) := Lib.hid t1
  clear t1 rc rl rf0 rf1 rf2 rf3 rf4 rf5 rf6 rf7 rf8 rf9
  have rc := G1.out.2.2.1.rw
  have rl := G1.out.2.2.1.lt
  have rf_ := G1.out.2.2.1.frozen
  have rf0 := rf_ 0
  have rf1 := rf_ 1
  have rf2 := rf_ 2
  have rf3 := rf_ 3
  have rf4 := rf_ 4
  have rf5 := rf_ 5
  have rf6 := rf_ 6
  have rf7 := rf_ 7
  have rf8 := rf_ 8
  have rf9 := rf_ 9
  clear rf_
  go_upto_region 4 with fail
  obtain ⟨W1, hW⟩ : ∃ W, W = V1.setCell ⟨br, 0, none⟩ (.int .i64 kk) := ⟨_, rfl⟩
  have H1 : Hid (Rc w W1 b0 p br sa (⟨kk, 0, 0, 0, 0, 0, 0, false, [], []⟩) none 0) := Lib.hid (G1.out.put (by rw [hW]; exact (Step.refl [br] V1).setCell (.inl (by simp)) _) (by rw [hW]; have hq := G1.out.2.2.1.set 0 (.int .i64 kk); simpa [rwc] using hq) rfl)
  rw [← hW]
  clear hW rc rl rf0 rf1 rf2 rf3 rf4 rf5 rf6 rf7 rf8 rf9
  have rc := H1.out.2.2.1.rw
  have rl := H1.out.2.2.1.lt
  have rf_ := H1.out.2.2.1.frozen
  have rf0 := rf_ 0
  have rf1 := rf_ 1
  have rf2 := rf_ 2
  have rf3 := rf_ 3
  have rf4 := rf_ 4
  have rf5 := rf_ 5
  have rf6 := rf_ 6
  have rf7 := rf_ 7
  have rf8 := rf_ 8
  have rf9 := rf_ 9
  clear rf_
  go_wp2_with fail
  refine (rc_up H1.out).mono ?_
  rintro e V2 ⟨rfl, t2⟩
  obtain ⟨ff, hff⟩ : ∃ ff, ff = (up sa).1 := ⟨_, rfl⟩
  obtain ⟨sb, hsb⟩ : ∃ sb, sb = (up sa).2 := ⟨_, rfl⟩
  rw [← hsb] at t2
  rw [← hff]
  have HV2 := Lib.hid (And.intro hff hsb)
  clear hff hsb
  have G2 : Hid (Rc w V2 b0 p br sb (⟨kk, 0, 0, 0, 0, 0, 0, false, [], []⟩) none 0) := Lib.hid t2
  clear t2 rc rl rf0 rf1 rf2 rf3 rf4 rf5 rf6 rf7 rf8 rf9
  have rc := G2.out.2.2.1.rw
  have rl := G2.out.2.2.1.lt
  have rf_ := G2.out.2.2.1.frozen
  have rf0 := rf_ 0
  have rf1 := rf_ 1
  have rf2 := rf_ 2
  have rf3 := rf_ 3
  have rf4 := rf_ 4
  have rf5 := rf_ 5
  have rf6 := rf_ 6
  have rf7 := rf_ 7
  have rf8 := rf_ 8
  have rf9 := rf_ 9
  clear rf_
  go_upto_region 5 with fail
  obtain ⟨W2, hW⟩ : ∃ W, W = V2.setCell ⟨br, 1, none⟩ (.int .i64 ff) := ⟨_, rfl⟩
  have H2 : Hid (Rc w W2 b0 p br sb (⟨kk, ff, 0, 0, 0, 0, 0, false, [], []⟩) none 0) := Lib.hid (G2.out.put (by rw [hW]; exact (Step.refl [br] V2).setCell (.inl (by simp)) _) (by rw [hW]; have hq := G2.out.2.2.1.set 1 (.int .i64 ff); simpa [rwc] using hq) rfl)
  rw [← hW]
  clear hW rc rl rf0 rf1 rf2 rf3 rf4 rf5 rf6 rf7 rf8 rf9
  have rc := H2.out.2.2.1.rw
  have rl := H2.out.2.2.1.lt
  have rf_ := H2.out.2.2.1.frozen
  have rf0 := rf_ 0
  have rf1 := rf_ 1
  have rf2 := rf_ 2
  have rf3 := rf_ 3
  have rf4 := rf_ 4
  have rf5 := rf_ 5
  have rf6 := rf_ 6
  have rf7 := rf_ 7
  have rf8 := rf_ 8
  have rf9 := rf_ 9
  clear rf_
  go_wp2_with fail
  refine (rc_up H2.out).mono ?_
  rintro e V3 ⟨rfl, t3⟩
  obtain ⟨tt, htt⟩ : ∃ tt, tt = (up sb).1 := ⟨_, rfl⟩
  obtain ⟨sc, hsc⟩ : ∃ sc, sc = (up sb).2 := ⟨_, rfl⟩
  rw [← hsc] at t3
  rw [← htt]
  have HV3 := Lib.hid (And.intro htt hsc)
  clear htt hsc
  have G3 : Hid (Rc w V3 b0 p br sc (⟨kk, ff, 0, 0, 0, 0, 0, false, [], []⟩) none 0) := Lib.hid t3
  clear t3 rc rl rf0 rf1 rf2 rf3 rf4 rf5 rf6 rf7 rf8 rf9
  have rc := G3.out.2.2.1.rw
  have rl := G3.out.2.2.1.lt
  have rf_ := G3.out.2.2.1.frozen
  have rf0 := rf_ 0
  have rf1 := rf_ 1
  have rf2 := rf_ 2
  have rf3 := rf_ 3
  have rf4 := rf_ 4
  have rf5 := rf_ 5
  have rf6 := rf_ 6
  have rf7 := rf_ 7
  have rf8 := rf_ 8
  have rf9 := rf_ 9
  clear rf_
  go_upto_region 6 with fail
  obtain ⟨W3, hW⟩ : ∃ W, W = V3.setCell ⟨br, 2, none⟩ (.int .i64 tt) := ⟨_, rfl⟩
  have H3 : Hid (Rc w W3 b0 p br sc (⟨kk, ff, tt, 0, 0, 0, 0, false, [], []⟩) none 0) := Lib.hid (G3.out.put (by rw [hW]; exact (Step.refl [br] V3).setCell (.inl (by simp)) _) (by rw [hW]; have hq := G3.out.2.2.1.set 2 (.int .i64 tt); simpa [rwc] using hq) rfl)
  rw [← hW]
  clear hW rc rl rf0 rf1 rf2 rf3 rf4 rf5 rf6 rf7 rf8 rf9
  have rc := H3.out.2.2.1.rw
  have rl := H3.out.2.2.1.lt
  have rf_ := H3.out.2.2.1.frozen
  have rf0 := rf_ 0
  have rf1 := rf_ 1
  have rf2 := rf_ 2
  have rf3 := rf_ 3
  have rf4 := rf_ 4
  have rf5 := rf_ 5
  have rf6 := rf_ 6
  have rf7 := rf_ 7
  have rf8 := rf_ 8
  have rf9 := rf_ 9
  clear rf_
  have HRM : Hid (readM ⟨s, false⟩ = readK kk ff tt sc) := Lib.hid (by unfold readM; rw [← HV1.out.2, ← HV2.out.2, ← HV3.out.2, ← HV1.out.1, ← HV2.out.1, ← HV3.out.1])
  clear HV1 HV2 HV3 H0 G1 H1 G2 H2 G3
  by_cases hk : kk = 1
  · have k1 : (kk == 1) = true := by simp [hk]
    have k2 : (kk == 2) = false := by simp [hk]
    have k3 : (kk == 3) = false := by simp [hk]
    have k4 : (kk == 4) = false := by simp [hk]
    have k5 : (kk == 5) = false := by simp [hk]
    have g3 : decide (3 ≤ kk) = false := by simp [hk]
    have g1 : decide (kk < 1) = false := by simp [hk]
    have g5 : decide (5 < kk) = false := by simp [hk]
    have HK := Lib.hid hk
    clear hk
    go_wp2_with fail
    refine (rc_up H3.out).mono ?_
    rintro e V4 ⟨rfl, t4⟩
    have G4 : Hid (Rc w V4 b0 p br ((up sc).2) (⟨kk, ff, tt, 0, 0, 0, 0, false, [], []⟩) none 0) := Lib.hid t4
    clear t4 rc rl rf0 rf1 rf2 rf3 rf4 rf5 rf6 rf7 rf8 rf9
    have rc := G4.out.2.2.1.rw
    have rl := G4.out.2.2.1.lt
    have rf_ := G4.out.2.2.1.frozen
    have rf0 := rf_ 0
    have rf1 := rf_ 1
    have rf2 := rf_ 2
    have rf3 := rf_ 3
    have rf4 := rf_ 4
    have rf5 := rf_ 5
    have rf6 := rf_ 6
    have rf7 := rf_ 7
    have rf8 := rf_ 8
    have rf9 := rf_ 9
    clear rf_
    go_upto_region 8 with fail
    obtain ⟨W4, hW⟩ : ∃ W, W = V4.setCell ⟨br, 3, none⟩ (.int .i64 (up sc).1) := ⟨_, rfl⟩
    have H4 : Hid (Rc w W4 b0 p br (up sc).2 (⟨kk, ff, tt, (up sc).1, 0, 0, 0, false, [], []⟩) none 0) := Lib.hid (G4.out.put (by rw [hW]; exact (Step.refl [br] V4).setCell (.inl (by simp)) _) (by rw [hW]; have hq := G4.out.2.2.1.set 3 (.int .i64 (up sc).1); simpa [rwc] using hq) rfl)
    rw [← hW]
    clear hW rc rl rf0 rf1 rf2 rf3 rf4 rf5 rf6 rf7 rf8 rf9
    have rc := H4.out.2.2.1.rw
    have rl := H4.out.2.2.1.lt
    have rf_ := H4.out.2.2.1.frozen
    have rf0 := rf_ 0
    have rf1 := rf_ 1
    have rf2 := rf_ 2
    have rf3 := rf_ 3
    have rf4 := rf_ 4
    have rf5 := rf_ 5
    have rf6 := rf_ 6
    have rf7 := rf_ 7
    have rf8 := rf_ 8
    have rf9 := rf_ 9
    clear rf_
    go_wp2_with fail
    refine (rc_up H4.out).mono ?_
    rintro e V5 ⟨rfl, t5⟩
    have G5 : Hid (Rc w V5 b0 p br ((up (up sc).2).2) (⟨kk, ff, tt, (up sc).1, 0, 0, 0, false, [], []⟩) none 0) := Lib.hid t5
    clear t5 rc rl rf0 rf1 rf2 rf3 rf4 rf5 rf6 rf7 rf8 rf9
    have rc := G5.out.2.2.1.rw
    have rl := G5.out.2.2.1.lt
    have rf_ := G5.out.2.2.1.frozen
    have rf0 := rf_ 0
    have rf1 := rf_ 1
    have rf2 := rf_ 2
    have rf3 := rf_ 3
    have rf4 := rf_ 4
    have rf5 := rf_ 5
    have rf6 := rf_ 6
    have rf7 := rf_ 7
    have rf8 := rf_ 8
    have rf9 := rf_ 9
    clear rf_
    go_upto_region 10 with fail
    obtain ⟨W5, hW⟩ : ∃ W, W = V5.setCell ⟨br, 4, none⟩ (.int .i64 (up (up sc).2).1) := ⟨_, rfl⟩
    have H5 : Hid (Rc w W5 b0 p br (up (up sc).2).2 (⟨kk, ff, tt, (up sc).1, (up (up sc).2).1, 0, 0, false, [], []⟩) none 0) := Lib.hid (G5.out.put (by rw [hW]; exact (Step.refl [br] V5).setCell (.inl (by simp)) _) (by rw [hW]; have hq := G5.out.2.2.1.set 4 (.int .i64 (up (up sc).2).1); simpa [rwc] using hq) rfl)
    rw [← hW]
    clear hW rc rl rf0 rf1 rf2 rf3 rf4 rf5 rf6 rf7 rf8 rf9
    have rc := H5.out.2.2.1.rw
    have rl := H5.out.2.2.1.lt
    have rf_ := H5.out.2.2.1.frozen
    have rf0 := rf_ 0
    have rf1 := rf_ 1
    have rf2 := rf_ 2
    have rf3 := rf_ 3
    have rf4 := rf_ 4
    have rf5 := rf_ 5
    have rf6 := rf_ 6
    have rf7 := rf_ 7
    have rf8 := rf_ 8
    have rf9 := rf_ 9
    clear rf_
    have HRD : Hid (readM ⟨s, false⟩ = (⟨kk, ff, tt, (up sc).1, (up (up sc).2).1, 0, 0, false, [], []⟩, (up (up sc).2).2)) := Lib.hid (by rw [HRM.out, HK.out]; rfl)
    have HIK : Hid (isKind (⟨kk, ff, tt, (up sc).1, (up (up sc).2).1, 0, 0, false, [], []⟩ : Rw).kind = true) := Lib.hid (by rw [HK.out]; rfl)
    have HF := Lib.hid H5.out
    go_wp2_with fail
    refine (refDone_any p _ W5 HF.out.2.1 HF.out.len).mono ?_
    rintro e X1 ⟨rfl, rfl⟩
    obtain ⟨z, hz⟩ : ∃ z, z = (rend ((up (up sc).2).2) == 0) := ⟨_, rfl⟩
    rw [← hz]
    have HZ := Lib.hid hz
    clear hz
    cases z with
    | false =>
      have zl := HF.out.1.lt
      have zc := fun j => HF.out.1.cell j
      have zf := fun j => HF.out.1.frozen j
      have zc0 := zc 0
      have zc1 := zc 1
      have zc2 := zc 2
      have zc3 := zc 3
      have zc4 := zc 4
      have zc5 := zc 5
      have zc6 := zc 6
      have zc7 := zc 7
      have zc8 := zc 8
      have zc9 := zc 9
      have zf0 := zf 0
      have zf1 := zf 1
      have zf2 := zf 2
      have zf3 := zf 3
      have zf4 := zf 4
      have zf5 := zf 5
      have zf6 := zf 6
      have zf7 := zf 7
      have zf8 := zf 8
      have zf9 := zf 9
      clear zc zf
      simp only [List.getElem?_toArray, List.getElem?_cons_zero, List.getElem?_cons_succ] at zc0 zc1 zc2 zc3 zc4 zc5 zc6 zc7 zc8 zc9
      go_wp2_with fail
      change bodyPost _ _ _ _ _ (putRw W5 b0 rwZ (.slice none 0 0))
      have P := (HF.out.1.putRw rwZ (.slice none 0 0)).rw
      have ss := step_putRw W5 b0 rwZ (.slice none 0 0)
      obtain ⟨U, hU⟩ : ∃ U, U = putRw W5 b0 rwZ (.slice none 0 0) := ⟨_, rfl⟩
      rw [← hU] at P ss ⊢
      clear hU
      have so : Step [] [] w U := (HF.out.2.2.2.2.2.2.1.drop (S'' := []) (by simp)).out1 ss HF.out.2.2.2.2.2.2.2.2
      refine bodyPost_ret (v := .tuple #[rwV rwZ (.slice none 0 0), .bool false]) ?_ rfl ⟨.inr ⟨decL_no HRD.out (.inr (fun e => by have := HZ.out; rw [e] at this; cases this)), rfl⟩, so⟩
      simp [results, Try.results18, go_sem, P]
    | true =>
      have zl := HF.out.1.lt
      have zc := fun j => HF.out.1.cell j
      have zf := fun j => HF.out.1.frozen j
      have zc0 := zc 0
      have zc1 := zc 1
      have zc2 := zc 2
      have zc3 := zc 3
      have zc4 := zc 4
      have zc5 := zc 5
      have zc6 := zc 6
      have zc7 := zc 7
      have zc8 := zc 8
      have zc9 := zc 9
      have zf0 := zf 0
      have zf1 := zf 1
      have zf2 := zf 2
      have zf3 := zf 3
      have zf4 := zf 4
      have zf5 := zf 5
      have zf6 := zf 6
      have zf7 := zf 7
      have zf8 := zf 8
      have zf9 := zf 9
      clear zc zf
      simp only [List.getElem?_toArray, List.getElem?_cons_zero, List.getElem?_cons_succ] at zc0 zc1 zc2 zc3 zc4 zc5 zc6 zc7 zc8 zc9
      go_wp2_with fail
      change bodyPost _ _ _ _ _ (putRw W5 b0 ⟨kk, ff, tt, (up sc).1, (up (up sc).2).1, 0, 0, false, [], []⟩ (.slice none (⟨kk, ff, tt, (up sc).1, (up (up sc).2).1, 0, 0, false, [], []⟩ : Rw).es.length 0))
      have P := (HF.out.1.putRw ⟨kk, ff, tt, (up sc).1, (up (up sc).2).1, 0, 0, false, [], []⟩ (.slice none (⟨kk, ff, tt, (up sc).1, (up (up sc).2).1, 0, 0, false, [], []⟩ : Rw).es.length 0)).rw
      have ss := step_putRw W5 b0 ⟨kk, ff, tt, (up sc).1, (up (up sc).2).1, 0, 0, false, [], []⟩ (.slice none (⟨kk, ff, tt, (up sc).1, (up (up sc).2).1, 0, 0, false, [], []⟩ : Rw).es.length 0)
      obtain ⟨U, hU⟩ : ∃ U, U = putRw W5 b0 ⟨kk, ff, tt, (up sc).1, (up (up sc).2).1, 0, 0, false, [], []⟩ (.slice none (⟨kk, ff, tt, (up sc).1, (up (up sc).2).1, 0, 0, false, [], []⟩ : Rw).es.length 0) := ⟨_, rfl⟩
      rw [← hU] at P ss ⊢
      clear hU
      have so : Step [] [] w U := (HF.out.2.2.2.2.2.2.1.drop (S'' := []) (by simp)).out1 ss HF.out.2.2.2.2.2.2.2.2
      have he := decL_of HRD.out HIK.out (eq_of_beq HZ.out.symm)
      refine bodyPost_ret (v := .tuple #[rwV ⟨kk, ff, tt, (up sc).1, (up (up sc).2).1, 0, 0, false, [], []⟩ (.slice none (⟨kk, ff, tt, (up sc).1, (up (up sc).2).1, 0, 0, false, [], []⟩ : Rw).es.length 0), .bool true]) ?_ rfl ⟨.inl ⟨_, none, 0, he, rfl, ?_⟩, so⟩
      · simp [results, Try.results18, go_sem, P]
      · exact HF.out.2.2.2.1.rd.step ss (fun g hg e => by simp at e; subst e; exact (HF.out.2.2.2.2.2.1 _ hg).1 rfl)
  · have hk1 := hk
    clear hk
    by_cases hk : kk = 2
    · have k1 : (kk == 1) = false := by simp [hk]
      have k2 : (kk == 2) = true := by simp [hk]
      have k3 : (kk == 3) = false := by simp [hk]
      have k4 : (kk == 4) = false := by simp [hk]
      have k5 : (kk == 5) = false := by simp [hk]
      have g3 : decide (3 ≤ kk) = false := by simp [hk]
      have g1 : decide (kk < 1) = false := by simp [hk]
      have g5 : decide (5 < kk) = false := by simp [hk]
      have HK := Lib.hid hk
      clear hk
      go_wp2_with fail
      refine (rc_flag H3.out).mono ?_
      rintro e V4 ⟨rfl, t4⟩
      have G4 : Hid (Rc w V4 b0 p br ((rflag sc).2) (⟨kk, ff, tt, 0, 0, 0, 0, false, [], []⟩) none 0) := Lib.hid t4
      clear t4 rc rl rf0 rf1 rf2 rf3 rf4 rf5 rf6 rf7 rf8 rf9
      have rc := G4.out.2.2.1.rw
      have rl := G4.out.2.2.1.lt
      have rf_ := G4.out.2.2.1.frozen
      have rf0 := rf_ 0
      have rf1 := rf_ 1
      have rf2 := rf_ 2
      have rf3 := rf_ 3
      have rf4 := rf_ 4
      have rf5 := rf_ 5
      have rf6 := rf_ 6
      have rf7 := rf_ 7
      have rf8 := rf_ 8
      have rf9 := rf_ 9
      clear rf_
      go_upto_region 24 with fail
      obtain ⟨W4, hW⟩ : ∃ W, W = V4.setCell ⟨br, 7, none⟩ (.bool (rflag sc).1) := ⟨_, rfl⟩
      have H4 : Hid (Rc w W4 b0 p br (rflag sc).2 (⟨kk, ff, tt, 0, 0, 0, 0, (rflag sc).1, [], []⟩) none 0) := Lib.hid (G4.out.put (by rw [hW]; exact (Step.refl [br] V4).setCell (.inl (by simp)) _) (by rw [hW]; have hq := G4.out.2.2.1.set 7 (.bool (rflag sc).1); simpa [rwc] using hq) rfl)
      rw [← hW]
      clear hW rc rl rf0 rf1 rf2 rf3 rf4 rf5 rf6 rf7 rf8 rf9
      have rc := H4.out.2.2.1.rw
      have rl := H4.out.2.2.1.lt
      have rf_ := H4.out.2.2.1.frozen
      have rf0 := rf_ 0
      have rf1 := rf_ 1
      have rf2 := rf_ 2
      have rf3 := rf_ 3
      have rf4 := rf_ 4
      have rf5 := rf_ 5
      have rf6 := rf_ 6
      have rf7 := rf_ 7
      have rf8 := rf_ 8
      have rf9 := rf_ 9
      clear rf_
      have HRD : Hid (readM ⟨s, false⟩ = (⟨kk, ff, tt, 0, 0, 0, 0, (rflag sc).1, [], []⟩, (rflag sc).2)) := Lib.hid (by rw [HRM.out, HK.out]; rfl)
      have HIK : Hid (isKind (⟨kk, ff, tt, 0, 0, 0, 0, (rflag sc).1, [], []⟩ : Rw).kind = true) := Lib.hid (by rw [HK.out]; rfl)
      have HF := Lib.hid H4.out
      go_wp2_with fail
      refine (refDone_any p _ W4 HF.out.2.1 HF.out.len).mono ?_
      rintro e X1 ⟨rfl, rfl⟩
      obtain ⟨z, hz⟩ : ∃ z, z = (rend ((rflag sc).2) == 0) := ⟨_, rfl⟩
      rw [← hz]
      have HZ := Lib.hid hz
      clear hz
      cases z with
      | false =>
        have zl := HF.out.1.lt
        have zc := fun j => HF.out.1.cell j
        have zf := fun j => HF.out.1.frozen j
        have zc0 := zc 0
        have zc1 := zc 1
        have zc2 := zc 2
        have zc3 := zc 3
        have zc4 := zc 4
        have zc5 := zc 5
        have zc6 := zc 6
        have zc7 := zc 7
        have zc8 := zc 8
        have zc9 := zc 9
        have zf0 := zf 0
        have zf1 := zf 1
        have zf2 := zf 2
        have zf3 := zf 3
        have zf4 := zf 4
        have zf5 := zf 5
        have zf6 := zf 6
        have zf7 := zf 7
        have zf8 := zf 8
        have zf9 := zf 9
        clear zc zf
        simp only [List.getElem?_toArray, List.getElem?_cons_zero, List.getElem?_cons_succ] at zc0 zc1 zc2 zc3 zc4 zc5 zc6 zc7 zc8 zc9
        go_wp2_with fail
        change bodyPost _ _ _ _ _ (putRw W4 b0 rwZ (.slice none 0 0))
        have P := (HF.out.1.putRw rwZ (.slice none 0 0)).rw
        have ss := step_putRw W4 b0 rwZ (.slice none 0 0)
        obtain ⟨U, hU⟩ : ∃ U, U = putRw W4 b0 rwZ (.slice none 0 0) := ⟨_, rfl⟩
        rw [← hU] at P ss ⊢
        clear hU
        have so : Step [] [] w U := (HF.out.2.2.2.2.2.2.1.drop (S'' := []) (by simp)).out1 ss HF.out.2.2.2.2.2.2.2.2
        refine bodyPost_ret (v := .tuple #[rwV rwZ (.slice none 0 0), .bool false]) ?_ rfl ⟨.inr ⟨decL_no HRD.out (.inr (fun e => by have := HZ.out; rw [e] at this; cases this)), rfl⟩, so⟩
        simp [results, Try.results18, go_sem, P]
      | true =>
        have zl := HF.out.1.lt
        have zc := fun j => HF.out.1.cell j
        have zf := fun j => HF.out.1.frozen j
        have zc0 := zc 0
        have zc1 := zc 1
        have zc2 := zc 2
        have zc3 := zc 3
        have zc4 := zc 4
        have zc5 := zc 5
        have zc6 := zc 6
        have zc7 := zc 7
        have zc8 := zc 8
        have zc9 := zc 9
        have zf0 := zf 0
        have zf1 := zf 1
        have zf2 := zf 2
        have zf3 := zf 3
        have zf4 := zf 4
        have zf5 := zf 5
        have zf6 := zf 6
        have zf7 := zf 7
        have zf8 := zf 8
        have zf9 := zf 9
        clear zc zf
        simp only [List.getElem?_toArray, List.getElem?_cons_zero, List.getElem?_cons_succ] at zc0 zc1 zc2 zc3 zc4 zc5 zc6 zc7 zc8 zc9
        go_wp2_with fail
        change bodyPost _ _ _ _ _ (putRw W4 b0 ⟨kk, ff, tt, 0, 0, 0, 0, (rflag sc).1, [], []⟩ (.slice none (⟨kk, ff, tt, 0, 0, 0, 0, (rflag sc).1, [], []⟩ : Rw).es.length 0))
        have P := (HF.out.1.putRw ⟨kk, ff, tt, 0, 0, 0, 0, (rflag sc).1, [], []⟩ (.slice none (⟨kk, ff, tt, 0, 0, 0, 0, (rflag sc).1, [], []⟩ : Rw).es.length 0)).rw
        have ss := step_putRw W4 b0 ⟨kk, ff, tt, 0, 0, 0, 0, (rflag sc).1, [], []⟩ (.slice none (⟨kk, ff, tt, 0, 0, 0, 0, (rflag sc).1, [], []⟩ : Rw).es.length 0)
        obtain ⟨U, hU⟩ : ∃ U, U = putRw W4 b0 ⟨kk, ff, tt, 0, 0, 0, 0, (rflag sc).1, [], []⟩ (.slice none (⟨kk, ff, tt, 0, 0, 0, 0, (rflag sc).1, [], []⟩ : Rw).es.length 0) := ⟨_, rfl⟩
        rw [← hU] at P ss ⊢
        clear hU
        have so : Step [] [] w U := (HF.out.2.2.2.2.2.2.1.drop (S'' := []) (by simp)).out1 ss HF.out.2.2.2.2.2.2.2.2
        have he := decL_of HRD.out HIK.out (eq_of_beq HZ.out.symm)
        refine bodyPost_ret (v := .tuple #[rwV ⟨kk, ff, tt, 0, 0, 0, 0, (rflag sc).1, [], []⟩ (.slice none (⟨kk, ff, tt, 0, 0, 0, 0, (rflag sc).1, [], []⟩ : Rw).es.length 0), .bool true]) ?_ rfl ⟨.inl ⟨_, none, 0, he, rfl, ?_⟩, so⟩
        · simp [results, Try.results18, go_sem, P]
        · exact HF.out.2.2.2.1.rd.step ss (fun g hg e => by simp at e; subst e; exact (HF.out.2.2.2.2.2.1 _ hg).1 rfl)
    · have hk2 := hk
      clear hk
      by_cases hk : kk = 3
      · have k1 : (kk == 1) = false := by simp [hk]
        have k2 : (kk == 2) = false := by simp [hk]
        have k3 : (kk == 3) = true := by simp [hk]
        have k4 : (kk == 4) = false := by simp [hk]
        have k5 : (kk == 5) = false := by simp [hk]
        have g3 : decide (3 ≤ kk) = true := by simp [hk]
        have g1 : decide (kk < 1) = false := by simp [hk]
        have g5 : decide (5 < kk) = false := by simp [hk]
        have HK := Lib.hid hk
        clear hk
        go_wp2_with fail
        refine (rc_up H3.out).mono ?_
        rintro e V4 ⟨rfl, t4⟩
        have G4 : Hid (Rc w V4 b0 p br ((up sc).2) (⟨kk, ff, tt, 0, 0, 0, 0, false, [], []⟩) none 0) := Lib.hid t4
        clear t4 rc rl rf0 rf1 rf2 rf3 rf4 rf5 rf6 rf7 rf8 rf9
        have rc := G4.out.2.2.1.rw
        have rl := G4.out.2.2.1.lt
        have rf_ := G4.out.2.2.1.frozen
        have rf0 := rf_ 0
        have rf1 := rf_ 1
        have rf2 := rf_ 2
        have rf3 := rf_ 3
        have rf4 := rf_ 4
        have rf5 := rf_ 5
        have rf6 := rf_ 6
        have rf7 := rf_ 7
        have rf8 := rf_ 8
        have rf9 := rf_ 9
        clear rf_
        go_upto_region 8 with fail
        obtain ⟨W4, hW⟩ : ∃ W, W = V4.setCell ⟨br, 3, none⟩ (.int .i64 (up sc).1) := ⟨_, rfl⟩
        have H4 : Hid (Rc w W4 b0 p br (up sc).2 (⟨kk, ff, tt, (up sc).1, 0, 0, 0, false, [], []⟩) none 0) := Lib.hid (G4.out.put (by rw [hW]; exact (Step.refl [br] V4).setCell (.inl (by simp)) _) (by rw [hW]; have hq := G4.out.2.2.1.set 3 (.int .i64 (up sc).1); simpa [rwc] using hq) rfl)
        rw [← hW]
        clear hW rc rl rf0 rf1 rf2 rf3 rf4 rf5 rf6 rf7 rf8 rf9
        have rc := H4.out.2.2.1.rw
        have rl := H4.out.2.2.1.lt
        have rf_ := H4.out.2.2.1.frozen
        have rf0 := rf_ 0
        have rf1 := rf_ 1
        have rf2 := rf_ 2
        have rf3 := rf_ 3
        have rf4 := rf_ 4
        have rf5 := rf_ 5
        have rf6 := rf_ 6
        have rf7 := rf_ 7
        have rf8 := rf_ 8
        have rf9 := rf_ 9
        clear rf_
        go_wp2_with fail
        refine (rc_up H4.out).mono ?_
        rintro e V5 ⟨rfl, t5⟩
        have G5 : Hid (Rc w V5 b0 p br ((up (up sc).2).2) (⟨kk, ff, tt, (up sc).1, 0, 0, 0, false, [], []⟩) none 0) := Lib.hid t5
        clear t5 rc rl rf0 rf1 rf2 rf3 rf4 rf5 rf6 rf7 rf8 rf9
        have rc := G5.out.2.2.1.rw
        have rl := G5.out.2.2.1.lt
        have rf_ := G5.out.2.2.1.frozen
        have rf0 := rf_ 0
        have rf1 := rf_ 1
        have rf2 := rf_ 2
        have rf3 := rf_ 3
        have rf4 := rf_ 4
        have rf5 := rf_ 5
        have rf6 := rf_ 6
        have rf7 := rf_ 7
        have rf8 := rf_ 8
        have rf9 := rf_ 9
        clear rf_
        go_upto_region 10 with fail
        obtain ⟨W5, hW⟩ : ∃ W, W = V5.setCell ⟨br, 4, none⟩ (.int .i64 (up (up sc).2).1) := ⟨_, rfl⟩
        have H5 : Hid (Rc w W5 b0 p br (up (up sc).2).2 (⟨kk, ff, tt, (up sc).1, (up (up sc).2).1, 0, 0, false, [], []⟩) none 0) := Lib.hid (G5.out.put (by rw [hW]; exact (Step.refl [br] V5).setCell (.inl (by simp)) _) (by rw [hW]; have hq := G5.out.2.2.1.set 4 (.int .i64 (up (up sc).2).1); simpa [rwc] using hq) rfl)
        rw [← hW]
        clear hW rc rl rf0 rf1 rf2 rf3 rf4 rf5 rf6 rf7 rf8 rf9
        have rc := H5.out.2.2.1.rw
        have rl := H5.out.2.2.1.lt
        have rf_ := H5.out.2.2.1.frozen
        have rf0 := rf_ 0
        have rf1 := rf_ 1
        have rf2 := rf_ 2
        have rf3 := rf_ 3
        have rf4 := rf_ 4
        have rf5 := rf_ 5
        have rf6 := rf_ 6
        have rf7 := rf_ 7
        have rf8 := rf_ 8
        have rf9 := rf_ 9
        clear rf_
        go_wp2_with fail
        refine (rc_up H5.out).mono ?_
        rintro e V6 ⟨rfl, t6⟩
        have G6 : Hid (Rc w V6 b0 p br ((up (up (up sc).2).2).2) (⟨kk, ff, tt, (up sc).1, (up (up sc).2).1, 0, 0, false, [], []⟩) none 0) := Lib.hid t6
        clear t6 rc rl rf0 rf1 rf2 rf3 rf4 rf5 rf6 rf7 rf8 rf9
        have rc := G6.out.2.2.1.rw
        have rl := G6.out.2.2.1.lt
        have rf_ := G6.out.2.2.1.frozen
        have rf0 := rf_ 0
        have rf1 := rf_ 1
        have rf2 := rf_ 2
        have rf3 := rf_ 3
        have rf4 := rf_ 4
        have rf5 := rf_ 5
        have rf6 := rf_ 6
        have rf7 := rf_ 7
        have rf8 := rf_ 8
        have rf9 := rf_ 9
        clear rf_
        go_upto_region 12 with fail
        obtain ⟨W6, hW⟩ : ∃ W, W = V6.setCell ⟨br, 5, none⟩ (.int .i64 (up (up (up sc).2).2).1) := ⟨_, rfl⟩
        have H6 : Hid (Rc w W6 b0 p br (up (up (up sc).2).2).2 (⟨kk, ff, tt, (up sc).1, (up (up sc).2).1, (up (up (up sc).2).2).1, 0, false, [], []⟩) none 0) := Lib.hid (G6.out.put (by rw [hW]; exact (Step.refl [br] V6).setCell (.inl (by simp)) _) (by rw [hW]; have hq := G6.out.2.2.1.set 5 (.int .i64 (up (up (up sc).2).2).1); simpa [rwc] using hq) rfl)
        rw [← hW]
        clear hW rc rl rf0 rf1 rf2 rf3 rf4 rf5 rf6 rf7 rf8 rf9
        have rc := H6.out.2.2.1.rw
        have rl := H6.out.2.2.1.lt
        have rf_ := H6.out.2.2.1.frozen
        have rf0 := rf_ 0
        have rf1 := rf_ 1
        have rf2 := rf_ 2
        have rf3 := rf_ 3
        have rf4 := rf_ 4
        have rf5 := rf_ 5
        have rf6 := rf_ 6
        have rf7 := rf_ 7
        have rf8 := rf_ 8
        have rf9 := rf_ 9
        clear rf_
        go_wp2_with fail
        refine (rc_up H6.out).mono ?_
        rintro e V7 ⟨rfl, t7⟩
        have G7 : Hid (Rc w V7 b0 p br ((up (up (up (up sc).2).2).2).2) (⟨kk, ff, tt, (up sc).1, (up (up sc).2).1, (up (up (up sc).2).2).1, 0, false, [], []⟩) none 0) := Lib.hid t7
        clear t7 rc rl rf0 rf1 rf2 rf3 rf4 rf5 rf6 rf7 rf8 rf9
        have rc := G7.out.2.2.1.rw
        have rl := G7.out.2.2.1.lt
        have rf_ := G7.out.2.2.1.frozen
        have rf0 := rf_ 0
        have rf1 := rf_ 1
        have rf2 := rf_ 2
        have rf3 := rf_ 3
        have rf4 := rf_ 4
        have rf5 := rf_ 5
        have rf6 := rf_ 6
        have rf7 := rf_ 7
        have rf8 := rf_ 8
        have rf9 := rf_ 9
        clear rf_
        go_upto_region 14 with fail
        obtain ⟨W7, hW⟩ : ∃ W, W = V7.setCell ⟨br, 6, none⟩ (.int .i64 (up (up (up (up sc).2).2).2).1) := ⟨_, rfl⟩
        have H7 : Hid (Rc w W7 b0 p br (up (up (up (up sc).2).2).2).2 (⟨kk, ff, tt, (up sc).1, (up (up sc).2).1, (up (up (up sc).2).2).1, (up (up (up (up sc).2).2).2).1, false, [], []⟩) none 0) := Lib.hid (G7.out.put (by rw [hW]; exact (Step.refl [br] V7).setCell (.inl (by simp)) _) (by rw [hW]; have hq := G7.out.2.2.1.set 6 (.int .i64 (up (up (up (up sc).2).2).2).1); simpa [rwc] using hq) rfl)
        rw [← hW]
        clear hW rc rl rf0 rf1 rf2 rf3 rf4 rf5 rf6 rf7 rf8 rf9
        have rc := H7.out.2.2.1.rw
        have rl := H7.out.2.2.1.lt
        have rf_ := H7.out.2.2.1.frozen
        have rf0 := rf_ 0
        have rf1 := rf_ 1
        have rf2 := rf_ 2
        have rf3 := rf_ 3
        have rf4 := rf_ 4
        have rf5 := rf_ 5
        have rf6 := rf_ 6
        have rf7 := rf_ 7
        have rf8 := rf_ 8
        have rf9 := rf_ 9
        clear rf_
        have hix1 := upto_nat sc 1099511627776
        have hix2 := upto_most sc 1099511627776 (by omega)
        obtain ⟨ix, hix⟩ : ∃ ix, ix = (up sc).1 := ⟨_, rfl⟩
        obtain ⟨l1, hl1⟩ : ∃ l1, l1 = (up (up sc).2).1 := ⟨_, rfl⟩
        obtain ⟨c1, hc1⟩ : ∃ c1, c1 = (up (up (up sc).2).2).1 := ⟨_, rfl⟩
        obtain ⟨d1, hd1⟩ : ∃ d1, d1 = (up (up (up (up sc).2).2).2).1 := ⟨_, rfl⟩
        obtain ⟨s4, hs4⟩ : ∃ s4, s4 = (up (up (up (up sc).2).2).2).2 := ⟨_, rfl⟩
        have hixa : 0 ≤ ix := by rw [hix]; exact hix1
        have hixb : ix ≤ 1099511627776 := by rw [hix]; exact hix2
        clear rc rl rf0 rf1 rf2 rf3 rf4 rf5 rf6 rf7 rf8 rf9
        rw [← hix, ← hl1, ← hc1, ← hd1, ← hs4] at H7
        have HIX := Lib.hid (And.intro hix (And.intro hl1 (And.intro hc1 (And.intro hd1 hs4))))
        clear hix hl1 hc1 hd1 hs4 hix1 hix2
        have rc := H7.out.2.2.1.rw
        have rl := H7.out.2.2.1.lt
        have rf_ := H7.out.2.2.1.frozen
        have rf0 := rf_ 0
        have rf1 := rf_ 1
        have rf2 := rf_ 2
        have rf3 := rf_ 3
        have rf4 := rf_ 4
        have rf5 := rf_ 5
        have rf6 := rf_ 6
        have rf7 := rf_ 7
        have rf8 := rf_ 8
        have rf9 := rf_ 9
        clear rf_
        go_wp2_with fail
        refine (rc_num H7.out 8).mono ?_
        rintro e V8 ⟨rfl, t8⟩
        obtain ⟨N, hN⟩ : ∃ N : Nat, N = (upto s4 8).1.toNat := ⟨_, rfl⟩
        obtain ⟨s5, hs5⟩ : ∃ s5, s5 = (upto s4 8).2 := ⟨_, rfl⟩
        have hN2 : (upto s4 8).1 = (N : Int) := by have := upto_nat s4 8; omega
        have hN8 : N ≤ 8 := by have := upto_most s4 8 (by omega); omega
        rw [hN2]
        rw [← hs5] at t8
        have H9 : Hid (Rc w V8 b0 p br (readEs (ix + 1) 0 s5).2 (⟨kk, ff, tt, ix, l1, c1, d1, false, (readEs (ix + 1) 0 s5).1, []⟩ : Rw) none 0) := Lib.hid t8
        have HN : Hid (N = (upto (up (up (up (up sc).2).2).2).2 8).1.toNat ∧ s5 = (upto (up (up (up (up sc).2).2).2).2 8).2) := ⟨by rw [← HIX.out.2.2.2.2]; exact hN, by rw [← HIX.out.2.2.2.2]; exact hs5⟩
        clear t8 hN hs5 hN2 H7 G4 G5 G6 G7 H6 H5 H4 H3 rc rl rf0 rf1 rf2 rf3 rf4 rf5 rf6 rf7 rf8 rf9
        go_wp2_with fail
        go_loopw [7] (fun v W => ∃ (k : Nat) (a : Option Addr) (cap : Nat), v = .int .i64 k ∧ k ≤ N ∧ Hid (Rc w W b0 p br (readEs (ix + 1) k s5).2 (⟨kk, ff, tt, ix, l1, c1, d1, false, (readEs (ix + 1) k s5).1, []⟩ : Rw) a cap)) (fun v _ => N - (intOf v).toNat)
        case atStart => exact ⟨0, none, 0, rfl, by omega, H9.out⟩
        case round =>
          clear H9
          rename World => W9
          obtain ⟨k, a, cap, rfl, hkN, HW⟩ := hrel
          by_cases hlt : k < N
          · have hlt' : (k : Int) < N := by omega
            go_wp2_with fail
            refine (rc_up HW.out).mono ?_
            rintro e X1 ⟨rfl, t1⟩
            have Q1 : Hid (Rc w X1 b0 p br (up (readEs (ix + 1) k s5).2).2 (⟨kk, ff, tt, ix, l1, c1, d1, false, (readEs (ix + 1) k s5).1, []⟩ : Rw) a cap) := Lib.hid t1
            clear t1
            go_wp2_with fail
            refine (rc_text Q1.out 8192).mono ?_
            rintro e X2 ⟨rfl, t2⟩
            have Q2 := Lib.hid t2
            clear t2
            have hit : IntKind.i64.wrap (ix + 1) = ix + 1 := IntWalk.i64_in _ (by omega)
            have hit2 : IntKind.i64.wrap (ix + 1 + (k : Int)) = ix + 1 + (k : Int) := IntWalk.i64_in _ (by omega)
            obtain ⟨i0, hi, hz0, hz1, hz2⟩ := info_parts Try.info_ent
            have HI := Lib.hid (And.intro hi (And.intro hz0 (And.intro hz1 hz2)))
            clear hi hz0 hz1 hz2
            have hlen8 : (readEs (ix + 1) k s5).1.length ≤ 8 := by rw [readEs_len]; omega
            have rc := Q2.out.2.2.1.rw
            have rl := Q2.out.2.2.1.lt
            obtain ⟨eb, heb⟩ : ∃ eb, eb = X2.heap.size := ⟨_, rfl⟩
            obtain ⟨X3, hX3⟩ : ∃ X3, X3 = X2.alloc (.cells #[.int .i64 (ix + 1 + (k : Int)), .int .i64 (up (readEs (ix + 1) k s5).2).1, Str (rtext (up (readEs (ix + 1) k s5).2).2 8192).1] 60) := ⟨_, rfl⟩
            have Q3 : Hid (Rc w X3 b0 p br (rtext (up (readEs (ix + 1) k s5).2).2 8192).2 (⟨kk, ff, tt, ix, l1, c1, d1, false, (readEs (ix + 1) k s5).1, []⟩ : Rw) a cap) := Lib.hid (by rw [hX3]; exact Q2.out.quiet ((Step.refl [] _).alloc _))
            have B3 : Hid (Blk X3 eb 60 (entc ⟨ix + 1 + (k : Int), (up (readEs (ix + 1) k s5).2).1, (rtext (up (readEs (ix + 1) k s5).2).2 8192).1⟩).toArray) := Lib.hid (by rw [hX3, heb]; exact Blk.new _ _ _)
            have HX3 := Lib.hid hX3
            have HEB := Lib.hid heb
            clear hX3 heb
            go_upto_region 18 with (at_builtin; rw [show X2.heap.size = eb from HEB.out.symm, show X2.alloc (.cells #[.int .i64 (ix + 1 + (k : Int)), .int .i64 (up (readEs (ix + 1) k s5).2).1, Str (rtext (up (readEs (ix + 1) k s5).2).2 8192).1] 60) = X3 from HX3.out.symm]; refine wpList_append_row rfl (.tmp 66) (.tmp 75) 22 22 rfl 60 i0 _ 3 32 Try.underlying22 HI.out.1 HI.out.2.1 HI.out.2.2.1 HI.out.2.2.2 rfl rfl Q3.out.2.2.2.1 rfl (Src.rd 22 60 Try.underlying22 (rd_blk B3.out 3 1 rfl) (entc_one _)) (by unfold maxLen; omega) (by omega) (by omega) ?_; intro a9 cap9 w9 hr9 st9; have Q9 : Hid (Rc w (w9.setCell ⟨br, 8, none⟩ (.slice a9 ((readEs (ix + 1) k s5).1.length + 1) cap9)) b0 p br _ (⟨kk, ff, tt, ix, l1, c1, d1, false, (readEs (ix + 1) k s5).1 ++ [⟨ix + 1 + (k : Int), (up (readEs (ix + 1) k s5).2).1, (rtext (up (readEs (ix + 1) k s5).2).2 8192).1⟩], []⟩ : Rw) a9 cap9) := Lib.hid (Q3.out.grow (e := ⟨ix + 1 + (k : Int), (up (readEs (ix + 1) k s5).2).1, (rtext (up (readEs (ix + 1) k s5).2).2 8192).1⟩) st9 hr9 rfl); have M9 := Lib.hid (Q3.out.mid st9); clear hr9 st9 rc rl; have z8 := M9.out.rw; have zl := M9.out.lt; have zf := M9.out.frozen 8)
            clear z8 zl zf
            go_wp2_with fail
            go_roundw
            case rel => exact ⟨k + 1, a9, cap9, by go_num, by omega, Q9.out⟩
            case measure => simp [intOf]; omega
          · obtain rfl : k = N := by omega
            have HRD : Hid (readM ⟨s, false⟩ = ((⟨kk, ff, tt, ix, l1, c1, d1, false, (readEs (ix + 1) k s5).1, []⟩ : Rw), (readEs (ix + 1) k s5).2)) := Lib.hid (by rw [HRM.out, HK.out]; show tail3 3 ff tt sc = _; rw [HN.out.1, HN.out.2, HIX.out.1, HIX.out.2.1, HIX.out.2.2.1, HIX.out.2.2.2.1]; rfl)
            have HIK : Hid (isKind (⟨kk, ff, tt, ix, l1, c1, d1, false, (readEs (ix + 1) k s5).1, []⟩ : Rw).kind = true) := Lib.hid (by rw [HK.out]; rfl)
            have rc := HW.out.2.2.1.rw
            have rl := HW.out.2.2.1.lt
            have rf_ := HW.out.2.2.1.frozen
            have rf0 := rf_ 0
            have rf1 := rf_ 1
            have rf2 := rf_ 2
            have rf3 := rf_ 3
            have rf4 := rf_ 4
            have rf5 := rf_ 5
            have rf6 := rf_ 6
            have rf7 := rf_ 7
            have rf8 := rf_ 8
            have rf9 := rf_ 9
            clear rf_
            go_upto_region 26 with fail
            have HF := Lib.hid HW.out
            go_wp2_with fail
            refine (refDone_any p _ W9 HF.out.2.1 HF.out.len).mono ?_
            rintro e X1 ⟨rfl, rfl⟩
            obtain ⟨z, hz⟩ : ∃ z, z = (rend ((readEs (ix + 1) k s5).2) == 0) := ⟨_, rfl⟩
            rw [← hz]
            have HZ := Lib.hid hz
            clear hz
            cases z with
            | false =>
              have zl := HF.out.1.lt
              have zc := fun j => HF.out.1.cell j
              have zf := fun j => HF.out.1.frozen j
              have zc0 := zc 0
              have zc1 := zc 1
              have zc2 := zc 2
              have zc3 := zc 3
              have zc4 := zc 4
              have zc5 := zc 5
              have zc6 := zc 6
              have zc7 := zc 7
              have zc8 := zc 8
              have zc9 := zc 9
              have zf0 := zf 0
              have zf1 := zf 1
              have zf2 := zf 2
              have zf3 := zf 3
              have zf4 := zf 4
              have zf5 := zf 5
              have zf6 := zf 6
              have zf7 := zf 7
              have zf8 := zf 8
              have zf9 := zf 9
              clear zc zf
              simp only [List.getElem?_toArray, List.getElem?_cons_zero, List.getElem?_cons_succ] at zc0 zc1 zc2 zc3 zc4 zc5 zc6 zc7 zc8 zc9
              go_wp2_with fail
              change bodyPost _ _ _ _ _ (putRw W9 b0 rwZ (.slice none 0 0))
              have P := (HF.out.1.putRw rwZ (.slice none 0 0)).rw
              have ss := step_putRw W9 b0 rwZ (.slice none 0 0)
              obtain ⟨U, hU⟩ : ∃ U, U = putRw W9 b0 rwZ (.slice none 0 0) := ⟨_, rfl⟩
              rw [← hU] at P ss ⊢
              clear hU
              have so : Step [] [] w U := (HF.out.2.2.2.2.2.2.1.drop (S'' := []) (by simp)).out1 ss HF.out.2.2.2.2.2.2.2.2
              refine bodyPost_ret (v := .tuple #[rwV rwZ (.slice none 0 0), .bool false]) ?_ rfl ⟨.inr ⟨decL_no HRD.out (.inr (fun e => by have := HZ.out; rw [e] at this; cases this)), rfl⟩, so⟩
              simp [results, Try.results18, go_sem, P]
            | true =>
              have zl := HF.out.1.lt
              have zc := fun j => HF.out.1.cell j
              have zf := fun j => HF.out.1.frozen j
              have zc0 := zc 0
              have zc1 := zc 1
              have zc2 := zc 2
              have zc3 := zc 3
              have zc4 := zc 4
              have zc5 := zc 5
              have zc6 := zc 6
              have zc7 := zc 7
              have zc8 := zc 8
              have zc9 := zc 9
              have zf0 := zf 0
              have zf1 := zf 1
              have zf2 := zf 2
              have zf3 := zf 3
              have zf4 := zf 4
              have zf5 := zf 5
              have zf6 := zf 6
              have zf7 := zf 7
              have zf8 := zf 8
              have zf9 := zf 9
              clear zc zf
              simp only [List.getElem?_toArray, List.getElem?_cons_zero, List.getElem?_cons_succ] at zc0 zc1 zc2 zc3 zc4 zc5 zc6 zc7 zc8 zc9
              go_wp2_with fail
              change bodyPost _ _ _ _ _ (putRw W9 b0 (⟨kk, ff, tt, ix, l1, c1, d1, false, (readEs (ix + 1) k s5).1, []⟩ : Rw) (.slice a ((⟨kk, ff, tt, ix, l1, c1, d1, false, (readEs (ix + 1) k s5).1, []⟩ : Rw) : Rw).es.length cap))
              have P := (HF.out.1.putRw (⟨kk, ff, tt, ix, l1, c1, d1, false, (readEs (ix + 1) k s5).1, []⟩ : Rw) (.slice a ((⟨kk, ff, tt, ix, l1, c1, d1, false, (readEs (ix + 1) k s5).1, []⟩ : Rw) : Rw).es.length cap)).rw
              have ss := step_putRw W9 b0 (⟨kk, ff, tt, ix, l1, c1, d1, false, (readEs (ix + 1) k s5).1, []⟩ : Rw) (.slice a ((⟨kk, ff, tt, ix, l1, c1, d1, false, (readEs (ix + 1) k s5).1, []⟩ : Rw) : Rw).es.length cap)
              obtain ⟨U, hU⟩ : ∃ U, U = putRw W9 b0 (⟨kk, ff, tt, ix, l1, c1, d1, false, (readEs (ix + 1) k s5).1, []⟩ : Rw) (.slice a ((⟨kk, ff, tt, ix, l1, c1, d1, false, (readEs (ix + 1) k s5).1, []⟩ : Rw) : Rw).es.length cap) := ⟨_, rfl⟩
              rw [← hU] at P ss ⊢
              clear hU
              have so : Step [] [] w U := (HF.out.2.2.2.2.2.2.1.drop (S'' := []) (by simp)).out1 ss HF.out.2.2.2.2.2.2.2.2
              have he := decL_of HRD.out HIK.out (eq_of_beq HZ.out.symm)
              refine bodyPost_ret (v := .tuple #[rwV (⟨kk, ff, tt, ix, l1, c1, d1, false, (readEs (ix + 1) k s5).1, []⟩ : Rw) (.slice a ((⟨kk, ff, tt, ix, l1, c1, d1, false, (readEs (ix + 1) k s5).1, []⟩ : Rw) : Rw).es.length cap), .bool true]) ?_ rfl ⟨.inl ⟨_, a, cap, he, rfl, ?_⟩, so⟩
              · simp [results, Try.results18, go_sem, P]
              · exact HF.out.2.2.2.1.rd.step ss (fun g hg e => by simp at e; subst e; exact (HF.out.2.2.2.2.2.1 _ hg).1 rfl)
      · have hk3 := hk
        clear hk
        by_cases hk : kk = 4
        · have k1 : (kk == 1) = false := by simp [hk]
          have k2 : (kk == 2) = false := by simp [hk]
          have k3 : (kk == 3) = false := by simp [hk]
          have k4 : (kk == 4) = true := by simp [hk]
          have k5 : (kk == 5) = false := by simp [hk]
          have g3 : decide (3 ≤ kk) = true := by simp [hk]
          have g1 : decide (kk < 1) = false := by simp [hk]
          have g5 : decide (5 < kk) = false := by simp [hk]
          have HK := Lib.hid hk
          clear hk
          go_wp2_with fail
          refine (rc_up H3.out).mono ?_
          rintro e V4 ⟨rfl, t4⟩
          have G4 : Hid (Rc w V4 b0 p br ((up sc).2) (⟨kk, ff, tt, 0, 0, 0, 0, false, [], []⟩) none 0) := Lib.hid t4
          clear t4 rc rl rf0 rf1 rf2 rf3 rf4 rf5 rf6 rf7 rf8 rf9
          have rc := G4.out.2.2.1.rw
          have rl := G4.out.2.2.1.lt
          have rf_ := G4.out.2.2.1.frozen
          have rf0 := rf_ 0
          have rf1 := rf_ 1
          have rf2 := rf_ 2
          have rf3 := rf_ 3
          have rf4 := rf_ 4
          have rf5 := rf_ 5
          have rf6 := rf_ 6
          have rf7 := rf_ 7
          have rf8 := rf_ 8
          have rf9 := rf_ 9
          clear rf_
          go_upto_region 8 with fail
          obtain ⟨W4, hW⟩ : ∃ W, W = V4.setCell ⟨br, 3, none⟩ (.int .i64 (up sc).1) := ⟨_, rfl⟩
          have H4 : Hid (Rc w W4 b0 p br (up sc).2 (⟨kk, ff, tt, (up sc).1, 0, 0, 0, false, [], []⟩) none 0) := Lib.hid (G4.out.put (by rw [hW]; exact (Step.refl [br] V4).setCell (.inl (by simp)) _) (by rw [hW]; have hq := G4.out.2.2.1.set 3 (.int .i64 (up sc).1); simpa [rwc] using hq) rfl)
          rw [← hW]
          clear hW rc rl rf0 rf1 rf2 rf3 rf4 rf5 rf6 rf7 rf8 rf9
          have rc := H4.out.2.2.1.rw
          have rl := H4.out.2.2.1.lt
          have rf_ := H4.out.2.2.1.frozen
          have rf0 := rf_ 0
          have rf1 := rf_ 1
          have rf2 := rf_ 2
          have rf3 := rf_ 3
          have rf4 := rf_ 4
          have rf5 := rf_ 5
          have rf6 := rf_ 6
          have rf7 := rf_ 7
          have rf8 := rf_ 8
          have rf9 := rf_ 9
          clear rf_
          go_wp2_with fail
          refine (rc_up H4.out).mono ?_
          rintro e V5 ⟨rfl, t5⟩
          have G5 : Hid (Rc w V5 b0 p br ((up (up sc).2).2) (⟨kk, ff, tt, (up sc).1, 0, 0, 0, false, [], []⟩) none 0) := Lib.hid t5
          clear t5 rc rl rf0 rf1 rf2 rf3 rf4 rf5 rf6 rf7 rf8 rf9
          have rc := G5.out.2.2.1.rw
          have rl := G5.out.2.2.1.lt
          have rf_ := G5.out.2.2.1.frozen
          have rf0 := rf_ 0
          have rf1 := rf_ 1
          have rf2 := rf_ 2
          have rf3 := rf_ 3
          have rf4 := rf_ 4
          have rf5 := rf_ 5
          have rf6 := rf_ 6
          have rf7 := rf_ 7
          have rf8 := rf_ 8
          have rf9 := rf_ 9
          clear rf_
          go_upto_region 14 with fail
          obtain ⟨W5, hW⟩ : ∃ W, W = V5.setCell ⟨br, 6, none⟩ (.int .i64 (up (up sc).2).1) := ⟨_, rfl⟩
          have H5 : Hid (Rc w W5 b0 p br (up (up sc).2).2 (⟨kk, ff, tt, (up sc).1, 0, 0, (up (up sc).2).1, false, [], []⟩) none 0) := Lib.hid (G5.out.put (by rw [hW]; exact (Step.refl [br] V5).setCell (.inl (by simp)) _) (by rw [hW]; have hq := G5.out.2.2.1.set 6 (.int .i64 (up (up sc).2).1); simpa [rwc] using hq) rfl)
          rw [← hW]
          clear hW rc rl rf0 rf1 rf2 rf3 rf4 rf5 rf6 rf7 rf8 rf9
          have rc := H5.out.2.2.1.rw
          have rl := H5.out.2.2.1.lt
          have rf_ := H5.out.2.2.1.frozen
          have rf0 := rf_ 0
          have rf1 := rf_ 1
          have rf2 := rf_ 2
          have rf3 := rf_ 3
          have rf4 := rf_ 4
          have rf5 := rf_ 5
          have rf6 := rf_ 6
          have rf7 := rf_ 7
          have rf8 := rf_ 8
          have rf9 := rf_ 9
          clear rf_
          go_wp2_with fail
          refine (rc_flag H5.out).mono ?_
          rintro e V6 ⟨rfl, t6⟩
          have G6 : Hid (Rc w V6 b0 p br ((rflag (up (up sc).2).2).2) (⟨kk, ff, tt, (up sc).1, 0, 0, (up (up sc).2).1, false, [], []⟩) none 0) := Lib.hid t6
          clear t6 rc rl rf0 rf1 rf2 rf3 rf4 rf5 rf6 rf7 rf8 rf9
          have rc := G6.out.2.2.1.rw
          have rl := G6.out.2.2.1.lt
          have rf_ := G6.out.2.2.1.frozen
          have rf0 := rf_ 0
          have rf1 := rf_ 1
          have rf2 := rf_ 2
          have rf3 := rf_ 3
          have rf4 := rf_ 4
          have rf5 := rf_ 5
          have rf6 := rf_ 6
          have rf7 := rf_ 7
          have rf8 := rf_ 8
          have rf9 := rf_ 9
          clear rf_
          go_upto_region 24 with fail
          obtain ⟨W6, hW⟩ : ∃ W, W = V6.setCell ⟨br, 7, none⟩ (.bool (rflag (up (up sc).2).2).1) := ⟨_, rfl⟩
          have H6 : Hid (Rc w W6 b0 p br (rflag (up (up sc).2).2).2 (⟨kk, ff, tt, (up sc).1, 0, 0, (up (up sc).2).1, (rflag (up (up sc).2).2).1, [], []⟩) none 0) := Lib.hid (G6.out.put (by rw [hW]; exact (Step.refl [br] V6).setCell (.inl (by simp)) _) (by rw [hW]; have hq := G6.out.2.2.1.set 7 (.bool (rflag (up (up sc).2).2).1); simpa [rwc] using hq) rfl)
          rw [← hW]
          clear hW rc rl rf0 rf1 rf2 rf3 rf4 rf5 rf6 rf7 rf8 rf9
          have rc := H6.out.2.2.1.rw
          have rl := H6.out.2.2.1.lt
          have rf_ := H6.out.2.2.1.frozen
          have rf0 := rf_ 0
          have rf1 := rf_ 1
          have rf2 := rf_ 2
          have rf3 := rf_ 3
          have rf4 := rf_ 4
          have rf5 := rf_ 5
          have rf6 := rf_ 6
          have rf7 := rf_ 7
          have rf8 := rf_ 8
          have rf9 := rf_ 9
          clear rf_
          have HRD : Hid (readM ⟨s, false⟩ = (⟨kk, ff, tt, (up sc).1, 0, 0, (up (up sc).2).1, (rflag (up (up sc).2).2).1, [], []⟩, (rflag (up (up sc).2).2).2)) := Lib.hid (by rw [HRM.out, HK.out]; rfl)
          have HIK : Hid (isKind (⟨kk, ff, tt, (up sc).1, 0, 0, (up (up sc).2).1, (rflag (up (up sc).2).2).1, [], []⟩ : Rw).kind = true) := Lib.hid (by rw [HK.out]; rfl)
          have HF := Lib.hid H6.out
          go_wp2_with fail
          refine (refDone_any p _ W6 HF.out.2.1 HF.out.len).mono ?_
          rintro e X1 ⟨rfl, rfl⟩
          obtain ⟨z, hz⟩ : ∃ z, z = (rend ((rflag (up (up sc).2).2).2) == 0) := ⟨_, rfl⟩
          rw [← hz]
          have HZ := Lib.hid hz
          clear hz
          cases z with
          | false =>
            have zl := HF.out.1.lt
            have zc := fun j => HF.out.1.cell j
            have zf := fun j => HF.out.1.frozen j
            have zc0 := zc 0
            have zc1 := zc 1
            have zc2 := zc 2
            have zc3 := zc 3
            have zc4 := zc 4
            have zc5 := zc 5
            have zc6 := zc 6
            have zc7 := zc 7
            have zc8 := zc 8
            have zc9 := zc 9
            have zf0 := zf 0
            have zf1 := zf 1
            have zf2 := zf 2
            have zf3 := zf 3
            have zf4 := zf 4
            have zf5 := zf 5
            have zf6 := zf 6
            have zf7 := zf 7
            have zf8 := zf 8
            have zf9 := zf 9
            clear zc zf
            simp only [List.getElem?_toArray, List.getElem?_cons_zero, List.getElem?_cons_succ] at zc0 zc1 zc2 zc3 zc4 zc5 zc6 zc7 zc8 zc9
            go_wp2_with fail
            change bodyPost _ _ _ _ _ (putRw W6 b0 rwZ (.slice none 0 0))
            have P := (HF.out.1.putRw rwZ (.slice none 0 0)).rw
            have ss := step_putRw W6 b0 rwZ (.slice none 0 0)
            obtain ⟨U, hU⟩ : ∃ U, U = putRw W6 b0 rwZ (.slice none 0 0) := ⟨_, rfl⟩
            rw [← hU] at P ss ⊢
            clear hU
            have so : Step [] [] w U := (HF.out.2.2.2.2.2.2.1.drop (S'' := []) (by simp)).out1 ss HF.out.2.2.2.2.2.2.2.2
            refine bodyPost_ret (v := .tuple #[rwV rwZ (.slice none 0 0), .bool false]) ?_ rfl ⟨.inr ⟨decL_no HRD.out (.inr (fun e => by have := HZ.out; rw [e] at this; cases this)), rfl⟩, so⟩
            simp [results, Try.results18, go_sem, P]
          | true =>
            have zl := HF.out.1.lt
            have zc := fun j => HF.out.1.cell j
            have zf := fun j => HF.out.1.frozen j
            have zc0 := zc 0
            have zc1 := zc 1
            have zc2 := zc 2
            have zc3 := zc 3
            have zc4 := zc 4
            have zc5 := zc 5
            have zc6 := zc 6
            have zc7 := zc 7
            have zc8 := zc 8
            have zc9 := zc 9
            have zf0 := zf 0
            have zf1 := zf 1
            have zf2 := zf 2
            have zf3 := zf 3
            have zf4 := zf 4
            have zf5 := zf 5
            have zf6 := zf 6
            have zf7 := zf 7
            have zf8 := zf 8
            have zf9 := zf 9
            clear zc zf
            simp only [List.getElem?_toArray, List.getElem?_cons_zero, List.getElem?_cons_succ] at zc0 zc1 zc2 zc3 zc4 zc5 zc6 zc7 zc8 zc9
            go_wp2_with fail
            change bodyPost _ _ _ _ _ (putRw W6 b0 ⟨kk, ff, tt, (up sc).1, 0, 0, (up (up sc).2).1, (rflag (up (up sc).2).2).1, [], []⟩ (.slice none (⟨kk, ff, tt, (up sc).1, 0, 0, (up (up sc).2).1, (rflag (up (up sc).2).2).1, [], []⟩ : Rw).es.length 0))
            have P := (HF.out.1.putRw ⟨kk, ff, tt, (up sc).1, 0, 0, (up (up sc).2).1, (rflag (up (up sc).2).2).1, [], []⟩ (.slice none (⟨kk, ff, tt, (up sc).1, 0, 0, (up (up sc).2).1, (rflag (up (up sc).2).2).1, [], []⟩ : Rw).es.length 0)).rw
            have ss := step_putRw W6 b0 ⟨kk, ff, tt, (up sc).1, 0, 0, (up (up sc).2).1, (rflag (up (up sc).2).2).1, [], []⟩ (.slice none (⟨kk, ff, tt, (up sc).1, 0, 0, (up (up sc).2).1, (rflag (up (up sc).2).2).1, [], []⟩ : Rw).es.length 0)
            obtain ⟨U, hU⟩ : ∃ U, U = putRw W6 b0 ⟨kk, ff, tt, (up sc).1, 0, 0, (up (up sc).2).1, (rflag (up (up sc).2).2).1, [], []⟩ (.slice none (⟨kk, ff, tt, (up sc).1, 0, 0, (up (up sc).2).1, (rflag (up (up sc).2).2).1, [], []⟩ : Rw).es.length 0) := ⟨_, rfl⟩
            rw [← hU] at P ss ⊢
            clear hU
            have so : Step [] [] w U := (HF.out.2.2.2.2.2.2.1.drop (S'' := []) (by simp)).out1 ss HF.out.2.2.2.2.2.2.2.2
            have he := decL_of HRD.out HIK.out (eq_of_beq HZ.out.symm)
            refine bodyPost_ret (v := .tuple #[rwV ⟨kk, ff, tt, (up sc).1, 0, 0, (up (up sc).2).1, (rflag (up (up sc).2).2).1, [], []⟩ (.slice none (⟨kk, ff, tt, (up sc).1, 0, 0, (up (up sc).2).1, (rflag (up (up sc).2).2).1, [], []⟩ : Rw).es.length 0), .bool true]) ?_ rfl ⟨.inl ⟨_, none, 0, he, rfl, ?_⟩, so⟩
            · simp [results, Try.results18, go_sem, P]
            · exact HF.out.2.2.2.1.rd.step ss (fun g hg e => by simp at e; subst e; exact (HF.out.2.2.2.2.2.1 _ hg).1 rfl)
        · have hk4 := hk
          clear hk
          by_cases hk : kk = 5
          · have k1 : (kk == 1) = false := by simp [hk]
            have k2 : (kk == 2) = false := by simp [hk]
            have k3 : (kk == 3) = false := by simp [hk]
            have k4 : (kk == 4) = false := by simp [hk]
            have k5 : (kk == 5) = true := by simp [hk]
            have g3 : decide (3 ≤ kk) = true := by simp [hk]
            have g1 : decide (kk < 1) = false := by simp [hk]
            have g5 : decide (5 < kk) = false := by simp [hk]
            have HK := Lib.hid hk
            clear hk
            go_wp2_with fail
            refine (rc_up H3.out).mono ?_
            rintro e V4 ⟨rfl, t4⟩
            have G4 : Hid (Rc w V4 b0 p br ((up sc).2) (⟨kk, ff, tt, 0, 0, 0, 0, false, [], []⟩) none 0) := Lib.hid t4
            clear t4 rc rl rf0 rf1 rf2 rf3 rf4 rf5 rf6 rf7 rf8 rf9
            have rc := G4.out.2.2.1.rw
            have rl := G4.out.2.2.1.lt
            have rf_ := G4.out.2.2.1.frozen
            have rf0 := rf_ 0
            have rf1 := rf_ 1
            have rf2 := rf_ 2
            have rf3 := rf_ 3
            have rf4 := rf_ 4
            have rf5 := rf_ 5
            have rf6 := rf_ 6
            have rf7 := rf_ 7
            have rf8 := rf_ 8
            have rf9 := rf_ 9
            clear rf_
            go_upto_region 8 with fail
            obtain ⟨W4, hW⟩ : ∃ W, W = V4.setCell ⟨br, 3, none⟩ (.int .i64 (up sc).1) := ⟨_, rfl⟩
            have H4 : Hid (Rc w W4 b0 p br (up sc).2 (⟨kk, ff, tt, (up sc).1, 0, 0, 0, false, [], []⟩) none 0) := Lib.hid (G4.out.put (by rw [hW]; exact (Step.refl [br] V4).setCell (.inl (by simp)) _) (by rw [hW]; have hq := G4.out.2.2.1.set 3 (.int .i64 (up sc).1); simpa [rwc] using hq) rfl)
            rw [← hW]
            clear hW rc rl rf0 rf1 rf2 rf3 rf4 rf5 rf6 rf7 rf8 rf9
            have rc := H4.out.2.2.1.rw
            have rl := H4.out.2.2.1.lt
            have rf_ := H4.out.2.2.1.frozen
            have rf0 := rf_ 0
            have rf1 := rf_ 1
            have rf2 := rf_ 2
            have rf3 := rf_ 3
            have rf4 := rf_ 4
            have rf5 := rf_ 5
            have rf6 := rf_ 6
            have rf7 := rf_ 7
            have rf8 := rf_ 8
            have rf9 := rf_ 9
            clear rf_
            go_wp2_with fail
            refine (rc_up H4.out).mono ?_
            rintro e V5 ⟨rfl, t5⟩
            have G5 : Hid (Rc w V5 b0 p br ((up (up sc).2).2) (⟨kk, ff, tt, (up sc).1, 0, 0, 0, false, [], []⟩) none 0) := Lib.hid t5
            clear t5 rc rl rf0 rf1 rf2 rf3 rf4 rf5 rf6 rf7 rf8 rf9
            have rc := G5.out.2.2.1.rw
            have rl := G5.out.2.2.1.lt
            have rf_ := G5.out.2.2.1.frozen
            have rf0 := rf_ 0
            have rf1 := rf_ 1
            have rf2 := rf_ 2
            have rf3 := rf_ 3
            have rf4 := rf_ 4
            have rf5 := rf_ 5
            have rf6 := rf_ 6
            have rf7 := rf_ 7
            have rf8 := rf_ 8
            have rf9 := rf_ 9
            clear rf_
            go_upto_region 10 with fail
            obtain ⟨W5, hW⟩ : ∃ W, W = V5.setCell ⟨br, 4, none⟩ (.int .i64 (up (up sc).2).1) := ⟨_, rfl⟩
            have H5 : Hid (Rc w W5 b0 p br (up (up sc).2).2 (⟨kk, ff, tt, (up sc).1, (up (up sc).2).1, 0, 0, false, [], []⟩) none 0) := Lib.hid (G5.out.put (by rw [hW]; exact (Step.refl [br] V5).setCell (.inl (by simp)) _) (by rw [hW]; have hq := G5.out.2.2.1.set 4 (.int .i64 (up (up sc).2).1); simpa [rwc] using hq) rfl)
            rw [← hW]
            clear hW rc rl rf0 rf1 rf2 rf3 rf4 rf5 rf6 rf7 rf8 rf9
            have rc := H5.out.2.2.1.rw
            have rl := H5.out.2.2.1.lt
            have rf_ := H5.out.2.2.1.frozen
            have rf0 := rf_ 0
            have rf1 := rf_ 1
            have rf2 := rf_ 2
            have rf3 := rf_ 3
            have rf4 := rf_ 4
            have rf5 := rf_ 5
            have rf6 := rf_ 6
            have rf7 := rf_ 7
            have rf8 := rf_ 8
            have rf9 := rf_ 9
            clear rf_
            go_wp2_with fail
            refine (rc_up H5.out).mono ?_
            rintro e V6 ⟨rfl, t6⟩
            have G6 : Hid (Rc w V6 b0 p br ((up (up (up sc).2).2).2) (⟨kk, ff, tt, (up sc).1, (up (up sc).2).1, 0, 0, false, [], []⟩) none 0) := Lib.hid t6
            clear t6 rc rl rf0 rf1 rf2 rf3 rf4 rf5 rf6 rf7 rf8 rf9
            have rc := G6.out.2.2.1.rw
            have rl := G6.out.2.2.1.lt
            have rf_ := G6.out.2.2.1.frozen
            have rf0 := rf_ 0
            have rf1 := rf_ 1
            have rf2 := rf_ 2
            have rf3 := rf_ 3
            have rf4 := rf_ 4
            have rf5 := rf_ 5
            have rf6 := rf_ 6
            have rf7 := rf_ 7
            have rf8 := rf_ 8
            have rf9 := rf_ 9
            clear rf_
            go_upto_region 14 with fail
            obtain ⟨W6, hW⟩ : ∃ W, W = V6.setCell ⟨br, 6, none⟩ (.int .i64 (up (up (up sc).2).2).1) := ⟨_, rfl⟩
            have H6 : Hid (Rc w W6 b0 p br (up (up (up sc).2).2).2 (⟨kk, ff, tt, (up sc).1, (up (up sc).2).1, 0, (up (up (up sc).2).2).1, false, [], []⟩) none 0) := Lib.hid (G6.out.put (by rw [hW]; exact (Step.refl [br] V6).setCell (.inl (by simp)) _) (by rw [hW]; have hq := G6.out.2.2.1.set 6 (.int .i64 (up (up (up sc).2).2).1); simpa [rwc] using hq) rfl)
            rw [← hW]
            clear hW rc rl rf0 rf1 rf2 rf3 rf4 rf5 rf6 rf7 rf8 rf9
            have rc := H6.out.2.2.1.rw
            have rl := H6.out.2.2.1.lt
            have rf_ := H6.out.2.2.1.frozen
            have rf0 := rf_ 0
            have rf1 := rf_ 1
            have rf2 := rf_ 2
            have rf3 := rf_ 3
            have rf4 := rf_ 4
            have rf5 := rf_ 5
            have rf6 := rf_ 6
            have rf7 := rf_ 7
            have rf8 := rf_ 8
            have rf9 := rf_ 9
            clear rf_
            go_wp2_with fail
            refine (rc_text H6.out 1048576).mono ?_
            rintro e V7 ⟨rfl, t7⟩
            have G7 : Hid (Rc w V7 b0 p br ((rtext (up (up (up sc).2).2).2 1048576).2) (⟨kk, ff, tt, (up sc).1, (up (up sc).2).1, 0, (up (up (up sc).2).2).1, false, [], []⟩) none 0) := Lib.hid t7
            clear t7 rc rl rf0 rf1 rf2 rf3 rf4 rf5 rf6 rf7 rf8 rf9
            have rc := G7.out.2.2.1.rw
            have rl := G7.out.2.2.1.lt
            have rf_ := G7.out.2.2.1.frozen
            have rf0 := rf_ 0
            have rf1 := rf_ 1
            have rf2 := rf_ 2
            have rf3 := rf_ 3
            have rf4 := rf_ 4
            have rf5 := rf_ 5
            have rf6 := rf_ 6
            have rf7 := rf_ 7
            have rf8 := rf_ 8
            have rf9 := rf_ 9
            clear rf_
            go_upto_region 26 with fail
            obtain ⟨W7, hW⟩ : ∃ W, W = V7.setCell ⟨br, 9, none⟩ (Str (rtext (up (up (up sc).2).2).2 1048576).1) := ⟨_, rfl⟩
            have H7 : Hid (Rc w W7 b0 p br (rtext (up (up (up sc).2).2).2 1048576).2 (⟨kk, ff, tt, (up sc).1, (up (up sc).2).1, 0, (up (up (up sc).2).2).1, false, [], (rtext (up (up (up sc).2).2).2 1048576).1⟩) none 0) := Lib.hid (G7.out.put (by rw [hW]; exact (Step.refl [br] V7).setCell (.inl (by simp)) _) (by rw [hW]; have hq := G7.out.2.2.1.set 9 (Str (rtext (up (up (up sc).2).2).2 1048576).1); simpa [rwc] using hq) rfl)
            rw [← hW]
            clear hW rc rl rf0 rf1 rf2 rf3 rf4 rf5 rf6 rf7 rf8 rf9
            have rc := H7.out.2.2.1.rw
            have rl := H7.out.2.2.1.lt
            have rf_ := H7.out.2.2.1.frozen
            have rf0 := rf_ 0
            have rf1 := rf_ 1
            have rf2 := rf_ 2
            have rf3 := rf_ 3
            have rf4 := rf_ 4
            have rf5 := rf_ 5
            have rf6 := rf_ 6
            have rf7 := rf_ 7
            have rf8 := rf_ 8
            have rf9 := rf_ 9
            clear rf_
            have HRD : Hid (readM ⟨s, false⟩ = (⟨kk, ff, tt, (up sc).1, (up (up sc).2).1, 0, (up (up (up sc).2).2).1, false, [], (rtext (up (up (up sc).2).2).2 1048576).1⟩, (rtext (up (up (up sc).2).2).2 1048576).2)) := Lib.hid (by rw [HRM.out, HK.out]; rfl)
            have HIK : Hid (isKind (⟨kk, ff, tt, (up sc).1, (up (up sc).2).1, 0, (up (up (up sc).2).2).1, false, [], (rtext (up (up (up sc).2).2).2 1048576).1⟩ : Rw).kind = true) := Lib.hid (by rw [HK.out]; rfl)
            have HF := Lib.hid H7.out
            go_wp2_with fail
            refine (refDone_any p _ W7 HF.out.2.1 HF.out.len).mono ?_
            rintro e X1 ⟨rfl, rfl⟩
            obtain ⟨z, hz⟩ : ∃ z, z = (rend ((rtext (up (up (up sc).2).2).2 1048576).2) == 0) := ⟨_, rfl⟩
            rw [← hz]
            have HZ := Lib.hid hz
            clear hz
            cases z with
            | false =>
              have zl := HF.out.1.lt
              have zc := fun j => HF.out.1.cell j
              have zf := fun j => HF.out.1.frozen j
              have zc0 := zc 0
              have zc1 := zc 1
              have zc2 := zc 2
              have zc3 := zc 3
              have zc4 := zc 4
              have zc5 := zc 5
              have zc6 := zc 6
              have zc7 := zc 7
              have zc8 := zc 8
              have zc9 := zc 9
              have zf0 := zf 0
              have zf1 := zf 1
              have zf2 := zf 2
              have zf3 := zf 3
              have zf4 := zf 4
              have zf5 := zf 5
              have zf6 := zf 6
              have zf7 := zf 7
              have zf8 := zf 8
              have zf9 := zf 9
              clear zc zf
              simp only [List.getElem?_toArray, List.getElem?_cons_zero, List.getElem?_cons_succ] at zc0 zc1 zc2 zc3 zc4 zc5 zc6 zc7 zc8 zc9
              go_wp2_with fail
              change bodyPost _ _ _ _ _ (putRw W7 b0 rwZ (.slice none 0 0))
              have P := (HF.out.1.putRw rwZ (.slice none 0 0)).rw
              have ss := step_putRw W7 b0 rwZ (.slice none 0 0)
              obtain ⟨U, hU⟩ : ∃ U, U = putRw W7 b0 rwZ (.slice none 0 0) := ⟨_, rfl⟩
              rw [← hU] at P ss ⊢
              clear hU
              have so : Step [] [] w U := (HF.out.2.2.2.2.2.2.1.drop (S'' := []) (by simp)).out1 ss HF.out.2.2.2.2.2.2.2.2
              refine bodyPost_ret (v := .tuple #[rwV rwZ (.slice none 0 0), .bool false]) ?_ rfl ⟨.inr ⟨decL_no HRD.out (.inr (fun e => by have := HZ.out; rw [e] at this; cases this)), rfl⟩, so⟩
              simp [results, Try.results18, go_sem, P]
            | true =>
              have zl := HF.out.1.lt
              have zc := fun j => HF.out.1.cell j
              have zf := fun j => HF.out.1.frozen j
              have zc0 := zc 0
              have zc1 := zc 1
              have zc2 := zc 2
              have zc3 := zc 3
              have zc4 := zc 4
              have zc5 := zc 5
              have zc6 := zc 6
              have zc7 := zc 7
              have zc8 := zc 8
              have zc9 := zc 9
              have zf0 := zf 0
              have zf1 := zf 1
              have zf2 := zf 2
              have zf3 := zf 3
              have zf4 := zf 4
              have zf5 := zf 5
              have zf6 := zf 6
              have zf7 := zf 7
              have zf8 := zf 8
              have zf9 := zf 9
              clear zc zf
              simp only [List.getElem?_toArray, List.getElem?_cons_zero, List.getElem?_cons_succ] at zc0 zc1 zc2 zc3 zc4 zc5 zc6 zc7 zc8 zc9
              go_wp2_with fail
              change bodyPost _ _ _ _ _ (putRw W7 b0 ⟨kk, ff, tt, (up sc).1, (up (up sc).2).1, 0, (up (up (up sc).2).2).1, false, [], (rtext (up (up (up sc).2).2).2 1048576).1⟩ (.slice none (⟨kk, ff, tt, (up sc).1, (up (up sc).2).1, 0, (up (up (up sc).2).2).1, false, [], (rtext (up (up (up sc).2).2).2 1048576).1⟩ : Rw).es.length 0))
              have P := (HF.out.1.putRw ⟨kk, ff, tt, (up sc).1, (up (up sc).2).1, 0, (up (up (up sc).2).2).1, false, [], (rtext (up (up (up sc).2).2).2 1048576).1⟩ (.slice none (⟨kk, ff, tt, (up sc).1, (up (up sc).2).1, 0, (up (up (up sc).2).2).1, false, [], (rtext (up (up (up sc).2).2).2 1048576).1⟩ : Rw).es.length 0)).rw
              have ss := step_putRw W7 b0 ⟨kk, ff, tt, (up sc).1, (up (up sc).2).1, 0, (up (up (up sc).2).2).1, false, [], (rtext (up (up (up sc).2).2).2 1048576).1⟩ (.slice none (⟨kk, ff, tt, (up sc).1, (up (up sc).2).1, 0, (up (up (up sc).2).2).1, false, [], (rtext (up (up (up sc).2).2).2 1048576).1⟩ : Rw).es.length 0)
              obtain ⟨U, hU⟩ : ∃ U, U = putRw W7 b0 ⟨kk, ff, tt, (up sc).1, (up (up sc).2).1, 0, (up (up (up sc).2).2).1, false, [], (rtext (up (up (up sc).2).2).2 1048576).1⟩ (.slice none (⟨kk, ff, tt, (up sc).1, (up (up sc).2).1, 0, (up (up (up sc).2).2).1, false, [], (rtext (up (up (up sc).2).2).2 1048576).1⟩ : Rw).es.length 0) := ⟨_, rfl⟩
              rw [← hU] at P ss ⊢
              clear hU
              have so : Step [] [] w U := (HF.out.2.2.2.2.2.2.1.drop (S'' := []) (by simp)).out1 ss HF.out.2.2.2.2.2.2.2.2
              have he := decL_of HRD.out HIK.out (eq_of_beq HZ.out.symm)
              refine bodyPost_ret (v := .tuple #[rwV ⟨kk, ff, tt, (up sc).1, (up (up sc).2).1, 0, (up (up (up sc).2).2).1, false, [], (rtext (up (up (up sc).2).2).2 1048576).1⟩ (.slice none (⟨kk, ff, tt, (up sc).1, (up (up sc).2).1, 0, (up (up (up sc).2).2).1, false, [], (rtext (up (up (up sc).2).2).2 1048576).1⟩ : Rw).es.length 0), .bool true]) ?_ rfl ⟨.inl ⟨_, none, 0, he, rfl, ?_⟩, so⟩
              · simp [results, Try.results18, go_sem, P]
              · exact HF.out.2.2.2.1.rd.step ss (fun g hg e => by simp at e; subst e; exact (HF.out.2.2.2.2.2.1 _ hg).1 rfl)
          · have hk5 := hk
            clear hk
            by_cases hbig : 5 < kk
            · have hk := hbig
              have k1 : (kk == 1) = false := by simp; omega
              have k2 : (kk == 2) = false := by simp; omega
              have k3 : (kk == 3) = false := by simp; omega
              have k4 : (kk == 4) = false := by simp; omega
              have k5 : (kk == 5) = false := by simp; omega
              have g3 : decide (3 ≤ kk) = true := decide_eq_true (by omega)
              have g1 : decide (kk < 1) = false := decide_eq_false (by omega)
              have g5 : decide (5 < kk) = true := decide_eq_true (by omega)
              have HNK : Hid (readM ⟨s, false⟩ = (⟨kk, ff, tt, 0, 0, 0, 0, false, [], []⟩, sc)) := Lib.hid (by rw [HRM.out, readK, if_neg (by omega), if_neg (by omega), if_neg (by omega), if_neg (by omega), if_neg (by omega)])
              have HIK : Hid (isKind kk = false) := Lib.hid (by simp [isKind]; omega)
              clear hk hk1 hk2 hk3 hk4 hk5 hbig
              go_wp2_with fail
              refine (rc_up H3.out).mono ?_
              rintro e V4 ⟨rfl, t4⟩
              have G4 : Hid (Rc w V4 b0 p br ((up sc).2) (⟨kk, ff, tt, 0, 0, 0, 0, false, [], []⟩) none 0) := Lib.hid t4
              clear t4 rc rl rf0 rf1 rf2 rf3 rf4 rf5 rf6 rf7 rf8 rf9
              have rc := G4.out.2.2.1.rw
              have rl := G4.out.2.2.1.lt
              have rf_ := G4.out.2.2.1.frozen
              have rf0 := rf_ 0
              have rf1 := rf_ 1
              have rf2 := rf_ 2
              have rf3 := rf_ 3
              have rf4 := rf_ 4
              have rf5 := rf_ 5
              have rf6 := rf_ 6
              have rf7 := rf_ 7
              have rf8 := rf_ 8
              have rf9 := rf_ 9
              clear rf_
              go_upto_region 8 with fail
              obtain ⟨W4, hW⟩ : ∃ W, W = V4.setCell ⟨br, 3, none⟩ (.int .i64 (up sc).1) := ⟨_, rfl⟩
              have H4 : Hid (Rc w W4 b0 p br (up sc).2 (⟨kk, ff, tt, (up sc).1, 0, 0, 0, false, [], []⟩) none 0) := Lib.hid (G4.out.put (by rw [hW]; exact (Step.refl [br] V4).setCell (.inl (by simp)) _) (by rw [hW]; have hq := G4.out.2.2.1.set 3 (.int .i64 (up sc).1); simpa [rwc] using hq) rfl)
              rw [← hW]
              clear hW rc rl rf0 rf1 rf2 rf3 rf4 rf5 rf6 rf7 rf8 rf9
              have rc := H4.out.2.2.1.rw
              have rl := H4.out.2.2.1.lt
              have rf_ := H4.out.2.2.1.frozen
              have rf0 := rf_ 0
              have rf1 := rf_ 1
              have rf2 := rf_ 2
              have rf3 := rf_ 3
              have rf4 := rf_ 4
              have rf5 := rf_ 5
              have rf6 := rf_ 6
              have rf7 := rf_ 7
              have rf8 := rf_ 8
              have rf9 := rf_ 9
              clear rf_
              go_wp2_with fail
              refine (rc_up H4.out).mono ?_
              rintro e V5 ⟨rfl, t5⟩
              have G5 : Hid (Rc w V5 b0 p br ((up (up sc).2).2) (⟨kk, ff, tt, (up sc).1, 0, 0, 0, false, [], []⟩) none 0) := Lib.hid t5
              clear t5 rc rl rf0 rf1 rf2 rf3 rf4 rf5 rf6 rf7 rf8 rf9
              have rc := G5.out.2.2.1.rw
              have rl := G5.out.2.2.1.lt
              have rf_ := G5.out.2.2.1.frozen
              have rf0 := rf_ 0
              have rf1 := rf_ 1
              have rf2 := rf_ 2
              have rf3 := rf_ 3
              have rf4 := rf_ 4
              have rf5 := rf_ 5
              have rf6 := rf_ 6
              have rf7 := rf_ 7
              have rf8 := rf_ 8
              have rf9 := rf_ 9
              clear rf_
              go_upto_region 14 with fail
              obtain ⟨W5, hW⟩ : ∃ W, W = V5.setCell ⟨br, 6, none⟩ (.int .i64 (up (up sc).2).1) := ⟨_, rfl⟩
              have H5 : Hid (Rc w W5 b0 p br (up (up sc).2).2 (⟨kk, ff, tt, (up sc).1, 0, 0, (up (up sc).2).1, false, [], []⟩) none 0) := Lib.hid (G5.out.put (by rw [hW]; exact (Step.refl [br] V5).setCell (.inl (by simp)) _) (by rw [hW]; have hq := G5.out.2.2.1.set 6 (.int .i64 (up (up sc).2).1); simpa [rwc] using hq) rfl)
              rw [← hW]
              clear hW rc rl rf0 rf1 rf2 rf3 rf4 rf5 rf6 rf7 rf8 rf9
              have rc := H5.out.2.2.1.rw
              have rl := H5.out.2.2.1.lt
              have rf_ := H5.out.2.2.1.frozen
              have rf0 := rf_ 0
              have rf1 := rf_ 1
              have rf2 := rf_ 2
              have rf3 := rf_ 3
              have rf4 := rf_ 4
              have rf5 := rf_ 5
              have rf6 := rf_ 6
              have rf7 := rf_ 7
              have rf8 := rf_ 8
              have rf9 := rf_ 9
              clear rf_
              have HF := Lib.hid H5.out
              go_wp2_with fail
              refine (refDone_any p _ W5 HF.out.2.1 HF.out.len).mono ?_
              rintro e X1 ⟨rfl, rfl⟩
              obtain ⟨z, hz⟩ : ∃ z, z = (rend ((up (up sc).2).2) == 0) := ⟨_, rfl⟩
              rw [← hz]
              have HZ := Lib.hid hz
              clear hz
              cases z with
              | false =>
                have zl := HF.out.1.lt
                have zc := fun j => HF.out.1.cell j
                have zf := fun j => HF.out.1.frozen j
                have zc0 := zc 0
                have zc1 := zc 1
                have zc2 := zc 2
                have zc3 := zc 3
                have zc4 := zc 4
                have zc5 := zc 5
                have zc6 := zc 6
                have zc7 := zc 7
                have zc8 := zc 8
                have zc9 := zc 9
                have zf0 := zf 0
                have zf1 := zf 1
                have zf2 := zf 2
                have zf3 := zf 3
                have zf4 := zf 4
                have zf5 := zf 5
                have zf6 := zf 6
                have zf7 := zf 7
                have zf8 := zf 8
                have zf9 := zf 9
                clear zc zf
                simp only [List.getElem?_toArray, List.getElem?_cons_zero, List.getElem?_cons_succ] at zc0 zc1 zc2 zc3 zc4 zc5 zc6 zc7 zc8 zc9
                go_wp2_with fail
                change bodyPost _ _ _ _ _ (putRw W5 b0 rwZ (.slice none 0 0))
                have P := (HF.out.1.putRw rwZ (.slice none 0 0)).rw
                have ss := step_putRw W5 b0 rwZ (.slice none 0 0)
                obtain ⟨U, hU⟩ : ∃ U, U = putRw W5 b0 rwZ (.slice none 0 0) := ⟨_, rfl⟩
                rw [← hU] at P ss ⊢
                clear hU
                have so : Step [] [] w U := (HF.out.2.2.2.2.2.2.1.drop (S'' := []) (by simp)).out1 ss HF.out.2.2.2.2.2.2.2.2
                refine bodyPost_ret (v := .tuple #[rwV rwZ (.slice none 0 0), .bool false]) ?_ rfl ⟨.inr ⟨decL_no HNK.out (.inl HIK.out), rfl⟩, so⟩
                simp [results, Try.results18, go_sem, P]
              | true =>
                have zl := HF.out.1.lt
                have zc := fun j => HF.out.1.cell j
                have zf := fun j => HF.out.1.frozen j
                have zc0 := zc 0
                have zc1 := zc 1
                have zc2 := zc 2
                have zc3 := zc 3
                have zc4 := zc 4
                have zc5 := zc 5
                have zc6 := zc 6
                have zc7 := zc 7
                have zc8 := zc 8
                have zc9 := zc 9
                have zf0 := zf 0
                have zf1 := zf 1
                have zf2 := zf 2
                have zf3 := zf 3
                have zf4 := zf 4
                have zf5 := zf 5
                have zf6 := zf 6
                have zf7 := zf 7
                have zf8 := zf 8
                have zf9 := zf 9
                clear zc zf
                simp only [List.getElem?_toArray, List.getElem?_cons_zero, List.getElem?_cons_succ] at zc0 zc1 zc2 zc3 zc4 zc5 zc6 zc7 zc8 zc9
                go_wp2_with fail
                change bodyPost _ _ _ _ _ (putRw W5 b0 rwZ (.slice none 0 0))
                have P := (HF.out.1.putRw rwZ (.slice none 0 0)).rw
                have ss := step_putRw W5 b0 rwZ (.slice none 0 0)
                obtain ⟨U, hU⟩ : ∃ U, U = putRw W5 b0 rwZ (.slice none 0 0) := ⟨_, rfl⟩
                rw [← hU] at P ss ⊢
                clear hU
                have so : Step [] [] w U := (HF.out.2.2.2.2.2.2.1.drop (S'' := []) (by simp)).out1 ss HF.out.2.2.2.2.2.2.2.2
                refine bodyPost_ret (v := .tuple #[rwV rwZ (.slice none 0 0), .bool false]) ?_ rfl ⟨.inr ⟨decL_no HNK.out (.inl HIK.out), rfl⟩, so⟩
                simp [results, Try.results18, go_sem, P]
            · have hk := hbig
              have k1 : (kk == 1) = false := by simp; omega
              have k2 : (kk == 2) = false := by simp; omega
              have k3 : (kk == 3) = false := by simp; omega
              have k4 : (kk == 4) = false := by simp; omega
              have k5 : (kk == 5) = false := by simp; omega
              have g3 : decide (3 ≤ kk) = false := decide_eq_false (by omega)
              have g1 : decide (kk < 1) = true := decide_eq_true (by omega)
              have HNK : Hid (readM ⟨s, false⟩ = (⟨kk, ff, tt, 0, 0, 0, 0, false, [], []⟩, sc)) := Lib.hid (by rw [HRM.out, readK, if_neg (by omega), if_neg (by omega), if_neg (by omega), if_neg (by omega), if_neg (by omega)])
              have HIK : Hid (isKind kk = false) := Lib.hid (by simp [isKind]; omega)
              clear hk hk1 hk2 hk3 hk4 hk5 hbig
              have HF := Lib.hid H3.out
              go_wp2_with fail
              refine (refDone_any p _ W3 HF.out.2.1 HF.out.len).mono ?_
              rintro e X1 ⟨rfl, rfl⟩
              obtain ⟨z, hz⟩ : ∃ z, z = (rend (sc) == 0) := ⟨_, rfl⟩
              rw [← hz]
              have HZ := Lib.hid hz
              clear hz
              cases z with
              | false =>
                have zl := HF.out.1.lt
                have zc := fun j => HF.out.1.cell j
                have zf := fun j => HF.out.1.frozen j
                have zc0 := zc 0
                have zc1 := zc 1
                have zc2 := zc 2
                have zc3 := zc 3
                have zc4 := zc 4
                have zc5 := zc 5
                have zc6 := zc 6
                have zc7 := zc 7
                have zc8 := zc 8
                have zc9 := zc 9
                have zf0 := zf 0
                have zf1 := zf 1
                have zf2 := zf 2
                have zf3 := zf 3
                have zf4 := zf 4
                have zf5 := zf 5
                have zf6 := zf 6
                have zf7 := zf 7
                have zf8 := zf 8
                have zf9 := zf 9
                clear zc zf
                simp only [List.getElem?_toArray, List.getElem?_cons_zero, List.getElem?_cons_succ] at zc0 zc1 zc2 zc3 zc4 zc5 zc6 zc7 zc8 zc9
                go_wp2_with fail
                change bodyPost _ _ _ _ _ (putRw W3 b0 rwZ (.slice none 0 0))
                have P := (HF.out.1.putRw rwZ (.slice none 0 0)).rw
                have ss := step_putRw W3 b0 rwZ (.slice none 0 0)
                obtain ⟨U, hU⟩ : ∃ U, U = putRw W3 b0 rwZ (.slice none 0 0) := ⟨_, rfl⟩
                rw [← hU] at P ss ⊢
                clear hU
                have so : Step [] [] w U := (HF.out.2.2.2.2.2.2.1.drop (S'' := []) (by simp)).out1 ss HF.out.2.2.2.2.2.2.2.2
                refine bodyPost_ret (v := .tuple #[rwV rwZ (.slice none 0 0), .bool false]) ?_ rfl ⟨.inr ⟨decL_no HNK.out (.inl HIK.out), rfl⟩, so⟩
                simp [results, Try.results18, go_sem, P]
              | true =>
                have zl := HF.out.1.lt
                have zc := fun j => HF.out.1.cell j
                have zf := fun j => HF.out.1.frozen j
                have zc0 := zc 0
                have zc1 := zc 1
                have zc2 := zc 2
                have zc3 := zc 3
                have zc4 := zc 4
                have zc5 := zc 5
                have zc6 := zc 6
                have zc7 := zc 7
                have zc8 := zc 8
                have zc9 := zc 9
                have zf0 := zf 0
                have zf1 := zf 1
                have zf2 := zf 2
                have zf3 := zf 3
                have zf4 := zf 4
                have zf5 := zf 5
                have zf6 := zf 6
                have zf7 := zf 7
                have zf8 := zf 8
                have zf9 := zf 9
                clear zc zf
                simp only [List.getElem?_toArray, List.getElem?_cons_zero, List.getElem?_cons_succ] at zc0 zc1 zc2 zc3 zc4 zc5 zc6 zc7 zc8 zc9
                go_wp2_with fail
                change bodyPost _ _ _ _ _ (putRw W3 b0 rwZ (.slice none 0 0))
                have P := (HF.out.1.putRw rwZ (.slice none 0 0)).rw
                have ss := step_putRw W3 b0 rwZ (.slice none 0 0)
                obtain ⟨U, hU⟩ : ∃ U, U = putRw W3 b0 rwZ (.slice none 0 0) := ⟨_, rfl⟩
                rw [← hU] at P ss ⊢
                clear hU
                have so : Step [] [] w U := (HF.out.2.2.2.2.2.2.1.drop (S'' := []) (by simp)).out1 ss HF.out.2.2.2.2.2.2.2.2
                refine bodyPost_ret (v := .tuple #[rwV rwZ (.slice none 0 0), .bool false]) ?_ rfl ⟨.inr ⟨decL_no HNK.out (.inl HIK.out), rfl⟩, so⟩
                simp [results, Try.results18, go_sem, P]
end Go.Proofs.Ytihklmomipidaaa
