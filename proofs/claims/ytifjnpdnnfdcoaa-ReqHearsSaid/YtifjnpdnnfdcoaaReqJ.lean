/-
  req's acts: acts are read. Condition: at most 2^40 bytes.
-/
import Derived.Test.YtifjnpdnnfdcoaaReqA
import Derived.Test.YtifjnpdnnfdcoaaReqPlain2
import Derived.Deep.DeepCutAuto
import Derived.Deep.CutBlock
namespace Go.Proofs.Ytifjnpdnnfdcoaa
open Go.RowKit
set_option linter.unusedSimpArgs false
set_option linter.unusedVariables false
set_option maxRecDepth 100000

theorem Step.own {w w1 w' : World} {S S' : List Nat} {b : Nat} (h : Step S S' w w1) (k : Step [b] [b] w1 w') (hb : w.heap.size ≤ b) : Step S S' w w' := by
  have h1 : Step S (S' ++ [b]) w w1 := h.wide (fun _ h => h) (fun g hg => by
    rcases List.mem_append.1 hg with hg | hg
    · exact .inr (.inl hg)
    · simp at hg; subst hg; exact .inr (.inr hb))
  exact (h1.trans (k.frame S')).drop fun g hg => List.mem_append_left _ hg
theorem rtext_len3 (st : RS) (m : Int) : (rtext st m).2.s.length ≤ st.s.length := (rtext_len st m).2
/-- While acts are read: the reader, the acts so far (an own slice). -/
def Ak (w0 w : World) (p : Nat) (st : RS) (l : List Da) (a : Option Addr) (cap : Nat) : Prop :=
  Rdr w p st ∧ Row w 7 a l.length cap (dacs l) ∧ Step [p] (p :: blks a) w0 w ∧ (∀ g ∈ blks a, w0.heap.size ≤ g) ∧ p < w0.heap.size ∧ st.s.length ≤ 1099511627776
/-- With the act that is read, in block `eb`. -/
def Bk (w0 w : World) (p : Nat) (st : RS) (l : List Da) (a : Option Addr) (cap : Nat) (eb : Nat) (d : Da) : Prop :=
  Ak w0 w p st l a cap ∧ Blk w eb 80 (dac d).toArray ∧ w0.heap.size ≤ eb ∧ eb ∉ blks a
section
variable {w0 w w' : World} {p : Nat} {st st' : RS} {l : List Da} {a : Option Addr} {cap eb : Nat} {d d' : Da}
theorem Ak.read (h : Ak w0 w p st l a cap) (g : Rdr w' p st') (k : Step [p] [p] w w') (hl : st'.s.length ≤ st.s.length) : Ak w0 w' p st' l a cap := by
  obtain ⟨h1, h2, h3, h4, h5, h6⟩ := h
  exact ⟨g, h2.step k (fun j hj e => by simp at e; subst e; have := h4 _ hj; omega), h3.trans (by simpa using k.frameR (blks a)), h4, h5, by omega⟩
theorem Bk.read (h : Bk w0 w p st l a cap eb d) (g : Rdr w' p st') (k : Step [p] [p] w w') (hl : st'.s.length ≤ st.s.length) : Bk w0 w' p st' l a cap eb d := by
  obtain ⟨h1, h2, h3, h4⟩ := h
  exact ⟨h1.read g k hl, h2.step k (by simp; have := h1.2.2.2.2.1; omega), h3, h4⟩
theorem Bk.new (h : Ak w0 w p st l a cap) (d : Da) : Bk w0 (w.alloc (.cells (dac d).toArray 80)) p st l a cap w.heap.size d := by
  obtain ⟨h1, h2, h3, h4, h5, h6⟩ := h
  exact ⟨⟨h1.alloc _, h2.alloc _, h3.alloc _, h4, h5, h6⟩, Blk.new w _ _, h3.size, fun hm => Nat.lt_irrefl _ (h2.lt _ hm)⟩
theorem Bk.put (h : Bk w0 w p st l a cap eb d) (k : Step [eb] [eb] w w') (hb : Blk w' eb 80 (dac d').toArray) : Bk w0 w' p st l a cap eb d' := by
  obtain ⟨⟨h1, h2, h3, h4, h5, h6⟩, h7, h8, h9⟩ := h
  exact ⟨⟨Rdr.step h1 k (by simp; omega), h2.step k (fun g hg e => by simp at e; subst e; exact h9 hg), h3.own k h8, h4, h5, h6⟩, hb, h8, h9⟩
theorem ak_upto (h : Ak w0 w p st l a cap) (m : Int) : Calls Try.prog 51 #[.pointer (some ⟨p, 0, none⟩), .int .i64 m] w fun e w' => e = .returned (.int .i64 (upto st m).1) ∧ Ak w0 w' p (upto st m).2 l a cap := by
  refine (upto_any p st m w h.1 (by have := h.2.2.2.2.2; omega)).mono ?_
  rintro e w' ⟨he, g, k⟩
  exact ⟨he, h.read g k (upto_len st _)⟩
theorem bk_upto (h : Bk w0 w p st l a cap eb d) (m : Int) : Calls Try.prog 51 #[.pointer (some ⟨p, 0, none⟩), .int .i64 m] w fun e w' => e = .returned (.int .i64 (upto st m).1) ∧ Bk w0 w' p (upto st m).2 l a cap eb d := by
  refine (upto_any p st m w h.1.1 (by have := h.1.2.2.2.2.2; omega)).mono ?_
  rintro e w' ⟨he, g, k⟩
  exact ⟨he, h.read g k (upto_len st _)⟩
theorem bk_text (h : Bk w0 w p st l a cap eb d) (m : Int) : Calls Try.prog 50 #[.pointer (some ⟨p, 0, none⟩), .int .i64 m] w fun e w' => e = .returned (Str (rtext st m).1) ∧ Bk w0 w' p (rtext st m).2 l a cap eb d := by
  refine (rtext_any p st m w h.1.1 (by have := h.1.2.2.2.2.2; omega)).mono ?_
  rintro e w' ⟨he, g, k⟩
  exact ⟨he, h.read g k (rtext_len3 st m)⟩
theorem bk_num (h : Bk w0 w p st l a cap eb d) : Calls Try.prog 52 #[.pointer (some ⟨p, 0, none⟩)] w fun e w' => e = .returned (.int .i64 (rnum st).1) ∧ Bk w0 w' p (rnum st).2 l a cap eb d := by
  refine (rnum_any p st w h.1.1 (by have := h.1.2.2.2.2.2; omega)).mono ?_
  rintro e w' ⟨he, g, k⟩
  exact ⟨he, h.read g k (upto_len st _)⟩
theorem bk_left (h : Bk w0 w p st l a cap eb d) : Calls Try.prog 53 #[.pointer (some ⟨p, 0, none⟩)] w fun e w' => e = .returned (.int .i64 st.s.length) ∧ w = w' := left_any p st w h.1.1
theorem bk_end (h : Bk w0 w p st l a cap eb d) : Calls Try.prog 56 #[.pointer (some ⟨p, 0, none⟩)] w fun e w' => e = .returned (.int .i64 (rend st)) ∧ w = w' := end_any p st w h.1.1
theorem Bk.grow {a9 : Option Addr} {cap9 : Nat} (h : Bk w0 w p st l a cap eb d) (s9 : Step [] [] w w') {w9 : World} (st9 : Step (blks a) (blks a9) w' w9) (hr9 : Row w9 7 a9 (l.length + 1) cap9 (dacs l ++ dacs [d])) : Ak w0 w9 p st (l ++ [d]) a9 cap9 := by
  obtain ⟨⟨h1, h2, h3, h4, h5, h6⟩, h7, h8, h9⟩ := h
  refine ⟨Rdr.step (Rdr.step h1 s9 (by simp)) st9 (fun hm => by have := h4 _ hm; omega), by rw [List.length_append, dacs_app]; exact hr9, ?_, fun g hg => ?_, h5, h6⟩
  · exact (h3.trans (by simpa using s9.frame (p :: blks a))).trans (st9.frame [p])
  · rcases st9.fresh g hg with hm | hm
    · exact h4 g hm
    · exact Nat.le_trans (Nat.le_trans h3.size s9.size) hm
end
def ActsP (p : Nat) (st : RS) (w : World) (e : Ending) (w' : World) : Prop :=
  ∃ a cap, e = .returned (.slice a (rdActs st).1.length cap) ∧ Rd w' 7 a (rdActs st).1.length (dacs (rdActs st).1) ∧ Rdr w' p (rdActs st).2 ∧ Step [p] [p] w w' ∧ (∀ g ∈ blks a, w.heap.size ≤ g) ∧ (rdActs st).2.s.length ≤ 1099511627776
set_option maxHeartbeats 8000000 in
theorem rdacts_any (p : Nat) (st : RS) (w : World) (h : Rdr w p st) (hs : st.s.length ≤ 1099511627776) :
    Calls Try.prog 54 #[.pointer (some ⟨p, 0, none⟩)] w (ActsP p st w) := by
  have H0 : Hid (Ak w w p st [] none 0) := Lib.hid ⟨h, Row.none w 7, Step.refl _ _, by simp [blks], Blk.lt h, hs⟩
  clear h hs
  obtain ⟨i0, hi, hz0, hz1, hz2⟩ := info_parts Try.info_do
  have HI := Lib.hid (And.intro hi (And.intro hz0 (And.intro hz1 hz2)))
  clear hi hz0 hz1 hz2
  go_enter Try.func54, Try.ntmps54
  go_wp2_with fail
  refine (ak_upto H0.out 8192).mono ?_
  rintro e w1 ⟨rfl, t⟩
  have hn0 := upto_nat st 8192
  have hn1 := uptoQ_most st 8192 (by omega)
  obtain ⟨N, hN⟩ : ∃ N : Nat, N = (upto st 8192).1.toNat := ⟨_, rfl⟩
  have hN2 : (upto st 8192).1 = (N : Int) := by omega
  have hN8 : N ≤ 8192 := by omega
  obtain ⟨R, hR⟩ : ∃ R, R = rdActs st := ⟨_, rfl⟩
  have HR := Lib.hid hR
  have H1 : Hid (Ak w w1 p (upto st 8192).2 [] none 0 ∧ actsR N [] (upto st 8192).2 = R) := ⟨t, by rw [hR, rdActs, ← hN]⟩
  rw [hN2]
  clear t hN hN2 hR hn0 hn1 H0
  go_wp2_with fail
  go_loopw [3, 7] (fun o i W => ∃ (k : Nat) (l : List Da) (a : Option Addr) (c : Nat) (st1 : RS), k ≤ N ∧ l.length ≤ k ∧ i = .int .i64 k ∧ o = .slice a l.length c ∧ Hid (Ak w W p st1 l a c ∧ actsR (N - k) l st1 = R)) (fun _ i _ => N - (intOf i).toNat)
  case atStart => exact ⟨0, [], none, 0, _, by omega, by simp, rfl, rfl, H1.out⟩
  case round =>
    clear H1
    rename World => W
    obtain ⟨k, l, a, c, st1, hk, hlk, rfl, rfl, HW⟩ := hrel
    by_cases hlt : k < N
    · have hlt' : (k : Int) < N := by omega
      go_wp2_with fail
      refine (ak_upto HW.out.1 3).mono ?_
      rintro e W1 ⟨rfl, t⟩
      obtain ⟨kd, hkd⟩ : ∃ kd, kd = (upto st1 3).1 := ⟨_, rfl⟩
      obtain ⟨s1, hs1⟩ : ∃ s1, s1 = (upto st1 3).2 := ⟨_, rfl⟩
      rw [← hkd]
      rw [← hs1] at t
      have HA : Hid (actR 8192 st1 = if kd = 1 then (⟨kd, (rtext s1 8192).1, (rtext (rtext s1 8192).2 8192).1, [], [], (rnum (rtext (rtext s1 8192).2 8192).2).1, (rnum (rnum (rtext (rtext s1 8192).2 8192).2).2).1⟩, (rnum (rnum (rtext (rtext s1 8192).2 8192).2).2).2) else if kd = 2 then (⟨kd, [], [], (rtext s1 8192).1, (rtext (rtext s1 8192).2 8192).1, 0, 0⟩, (rtext (rtext s1 8192).2 8192).2) else if kd = 3 then (⟨kd, (rtext s1 8192).1, (rtext (rtext s1 8192).2 8192).1, [], [], 0, 0⟩, (rtext (rtext s1 8192).2 8192).2) else (⟨kd, [], [], [], [], 0, 0⟩, rfail)) := Lib.hid (by rw [hkd, hs1]; rfl)
      have HB := Lib.hid (Bk.new t ⟨kd, [], [], [], [], 0, 0⟩)
      have HSt : Hid (actsR (N - k) l st1 = R) := Lib.hid HW.out.2
      have HLK : Hid (l.length ≤ k ∧ k < N) := ⟨hlk, hlt⟩
      clear t hkd hs1 HW
      go_upto_region 5 with fail
      obtain ⟨eb, heb⟩ : ∃ eb, eb = W1.heap.size := ⟨_, rfl⟩
      obtain ⟨X0, hX0⟩ : ∃ X0, X0 = W1.alloc (.cells (dac ⟨kd, [], [], [], [], 0, 0⟩).toArray 80) := ⟨_, rfl⟩
      rw [← hX0, ← heb] at HB
      rw [show W1.alloc (.cells #[.int .i64 kd, .string ⟨#[]⟩, .string ⟨#[]⟩, .string ⟨#[]⟩, .string ⟨#[]⟩, .int .i64 0, .int .i64 0] 80) = X0 from hX0.symm, ← heb]
      clear hX0 heb
      have B0 := HB
      clear HB
      have vc := (B0.out.2.1).cell
      have v0 := vc 0
      have v1 := vc 1
      have v2 := vc 2
      have v3 := vc 3
      have v4 := vc 4
      have v5 := vc 5
      have v6 := vc 6
      clear vc
      simp only [dac, List.getElem?_toArray, List.getElem?_cons_zero, List.getElem?_cons_succ] at v0 v1 v2 v3 v4 v5 v6
      have vl := (B0.out.2.1).lt
      have vfz := (B0.out.2.1).frozen
      have vf0 := vfz 0
      have vf1 := vfz 1
      have vf2 := vfz 2
      have vf3 := vfz 3
      have vf4 := vfz 4
      have vf5 := vfz 5
      have vf6 := vfz 6
      clear vfz
      go_upto_block 2 with fail
      clear v0 v1 v2 v3 v4 v5 v6 vl vf0 vf1 vf2 vf3 vf4 vf5 vf6
      go_cut [] (fun wx => Hid (Bk w wx p (actR 8192 st1).2 l a c eb (actR 8192 st1).1))
      case first =>
        by_cases hk : kd = 1
        · have k1 : (kd == 1) = true := by simp [hk]
          have k2 : (kd == 2) = false := by simp [hk]
          have k3 : (kd == 3) = false := by simp [hk]
          have HKD := Lib.hid hk
          clear hk
          have vc := (B0.out.2.1).cell
          have v0 := vc 0
          have v1 := vc 1
          have v2 := vc 2
          have v3 := vc 3
          have v4 := vc 4
          have v5 := vc 5
          have v6 := vc 6
          clear vc
          simp only [dac, List.getElem?_toArray, List.getElem?_cons_zero, List.getElem?_cons_succ] at v0 v1 v2 v3 v4 v5 v6
          have vl := (B0.out.2.1).lt
          have vfz := (B0.out.2.1).frozen
          have vf0 := vfz 0
          have vf1 := vfz 1
          have vf2 := vfz 2
          have vf3 := vfz 3
          have vf4 := vfz 4
          have vf5 := vfz 5
          have vf6 := vfz 6
          clear vfz
          go_wp2_with fail
          refine (bk_text B0.out 8192).mono ?_
          rintro e X1 ⟨rfl, t⟩
          have B1 := Lib.hid t
          clear t
          go_wp2_with fail
          refine (bk_text B1.out 8192).mono ?_
          rintro e X2 ⟨rfl, t⟩
          have B2 := Lib.hid t
          clear t
          clear v0 v1 v2 v3 v4 v5 v6 vl vf0 vf1 vf2 vf3 vf4 vf5 vf6
          have vc := (B2.out.2.1).cell
          have v0 := vc 0
          have v1 := vc 1
          have v2 := vc 2
          have v3 := vc 3
          have v4 := vc 4
          have v5 := vc 5
          have v6 := vc 6
          clear vc
          simp only [dac, List.getElem?_toArray, List.getElem?_cons_zero, List.getElem?_cons_succ] at v0 v1 v2 v3 v4 v5 v6
          have vl := (B2.out.2.1).lt
          have vfz := (B2.out.2.1).frozen
          have vf0 := vfz 0
          have vf1 := vfz 1
          have vf2 := vfz 2
          have vf3 := vfz 3
          have vf4 := vfz 4
          have vf5 := vfz 5
          have vf6 := vfz 6
          clear vfz
          go_upto_region 9 with fail
          obtain ⟨Y1, hW⟩ : ∃ W, W = ((X2.setCell ⟨eb, 1, none⟩ (Str (rtext s1 8192).1)).setCell ⟨eb, 2, none⟩ (Str (rtext (rtext s1 8192).2 8192).1)) := ⟨_, rfl⟩
          have CY1 : Hid (Bk w Y1 p ((rtext (rtext s1 8192).2 8192).2) l a c eb (⟨kd, (rtext s1 8192).1, (rtext (rtext s1 8192).2 8192).1, [], [], 0, 0⟩)) := Lib.hid (B2.out.put (by rw [hW]; exact (((Step.refl [eb] X2).setCell (.inl (by simp)) _).setCell (.inl (by simp)) _)) (by rw [hW]; have hq := ((B2.out.2.1.set 1 (Str (rtext s1 8192).1)).set 2 (Str (rtext (rtext s1 8192).2 8192).1)); simpa [dac] using hq))
          rw [← hW]
          clear hW v0 v1 v2 v3 v4 v5 v6 vl vf0 vf1 vf2 vf3 vf4 vf5 vf6
          go_wp2_with fail
          refine (bk_num CY1.out).mono ?_
          rintro e X3 ⟨rfl, t⟩
          have B3 := Lib.hid t
          clear t
          go_wp2_with fail
          refine (bk_num B3.out).mono ?_
          rintro e X4 ⟨rfl, t⟩
          have B4 := Lib.hid t
          clear t
          have vc := (B4.out.2.1).cell
          have v0 := vc 0
          have v1 := vc 1
          have v2 := vc 2
          have v3 := vc 3
          have v4 := vc 4
          have v5 := vc 5
          have v6 := vc 6
          clear vc
          simp only [dac, List.getElem?_toArray, List.getElem?_cons_zero, List.getElem?_cons_succ] at v0 v1 v2 v3 v4 v5 v6
          have vl := (B4.out.2.1).lt
          have vfz := (B4.out.2.1).frozen
          have vf0 := vfz 0
          have vf1 := vfz 1
          have vf2 := vfz 2
          have vf3 := vfz 3
          have vf4 := vfz 4
          have vf5 := vfz 5
          have vf6 := vfz 6
          clear vfz
          go_upto_region 14 with fail
          obtain ⟨Y2, hW⟩ : ∃ W, W = ((X4.setCell ⟨eb, 5, none⟩ (.int .i64 (rnum (rtext (rtext s1 8192).2 8192).2).1)).setCell ⟨eb, 6, none⟩ (.int .i64 (rnum (rnum (rtext (rtext s1 8192).2 8192).2).2).1)) := ⟨_, rfl⟩
          have CY2 : Hid (Bk w Y2 p ((rnum (rnum (rtext (rtext s1 8192).2 8192).2).2).2) l a c eb (⟨kd, (rtext s1 8192).1, (rtext (rtext s1 8192).2 8192).1, [], [], (rnum (rtext (rtext s1 8192).2 8192).2).1, (rnum (rnum (rtext (rtext s1 8192).2 8192).2).2).1⟩)) := Lib.hid (B4.out.put (by rw [hW]; exact (((Step.refl [eb] X4).setCell (.inl (by simp)) _).setCell (.inl (by simp)) _)) (by rw [hW]; have hq := ((B4.out.2.1.set 5 (.int .i64 (rnum (rtext (rtext s1 8192).2 8192).2).1)).set 6 (.int .i64 (rnum (rnum (rtext (rtext s1 8192).2 8192).2).2).1)); simpa [dac] using hq))
          rw [← hW]
          clear hW v0 v1 v2 v3 v4 v5 v6 vl vf0 vf1 vf2 vf3 vf4 vf5 vf6
          have GE : Hid (Bk w Y2 p (actR 8192 st1).2 l a c eb (actR 8192 st1).1) := Lib.hid (by rw [show actR 8192 st1 = _ from HA.out]; simp only [HKD.out, if_true]; have := CY2.out; rwa [HKD.out] at this)
          go_wp2_with fail
          go_meet
          first | exact GE | exact GE.out
        · have hk1 := hk
          clear hk
          by_cases hk : kd = 2
          · have k1 : (kd == 1) = false := by simp [hk]
            have k2 : (kd == 2) = true := by simp [hk]
            have k3 : (kd == 3) = false := by simp [hk]
            have HKD := Lib.hid hk
            clear hk
            have vc := (B0.out.2.1).cell
            have v0 := vc 0
            have v1 := vc 1
            have v2 := vc 2
            have v3 := vc 3
            have v4 := vc 4
            have v5 := vc 5
            have v6 := vc 6
            clear vc
            simp only [dac, List.getElem?_toArray, List.getElem?_cons_zero, List.getElem?_cons_succ] at v0 v1 v2 v3 v4 v5 v6
            have vl := (B0.out.2.1).lt
            have vfz := (B0.out.2.1).frozen
            have vf0 := vfz 0
            have vf1 := vfz 1
            have vf2 := vfz 2
            have vf3 := vfz 3
            have vf4 := vfz 4
            have vf5 := vfz 5
            have vf6 := vfz 6
            clear vfz
            go_wp2_with fail
            refine (bk_text B0.out 8192).mono ?_
            rintro e X1 ⟨rfl, t⟩
            have B1 := Lib.hid t
            clear t
            go_wp2_with fail
            refine (bk_text B1.out 8192).mono ?_
            rintro e X2 ⟨rfl, t⟩
            have B2 := Lib.hid t
            clear t
            clear v0 v1 v2 v3 v4 v5 v6 vl vf0 vf1 vf2 vf3 vf4 vf5 vf6
            have vc := (B2.out.2.1).cell
            have v0 := vc 0
            have v1 := vc 1
            have v2 := vc 2
            have v3 := vc 3
            have v4 := vc 4
            have v5 := vc 5
            have v6 := vc 6
            clear vc
            simp only [dac, List.getElem?_toArray, List.getElem?_cons_zero, List.getElem?_cons_succ] at v0 v1 v2 v3 v4 v5 v6
            have vl := (B2.out.2.1).lt
            have vfz := (B2.out.2.1).frozen
            have vf0 := vfz 0
            have vf1 := vfz 1
            have vf2 := vfz 2
            have vf3 := vfz 3
            have vf4 := vfz 4
            have vf5 := vfz 5
            have vf6 := vfz 6
            clear vfz
            go_upto_region 14 with fail
            obtain ⟨Y1, hW⟩ : ∃ W, W = ((X2.setCell ⟨eb, 3, none⟩ (Str (rtext s1 8192).1)).setCell ⟨eb, 4, none⟩ (Str (rtext (rtext s1 8192).2 8192).1)) := ⟨_, rfl⟩
            have CY1 : Hid (Bk w Y1 p ((rtext (rtext s1 8192).2 8192).2) l a c eb (⟨kd, [], [], (rtext s1 8192).1, (rtext (rtext s1 8192).2 8192).1, 0, 0⟩)) := Lib.hid (B2.out.put (by rw [hW]; exact (((Step.refl [eb] X2).setCell (.inl (by simp)) _).setCell (.inl (by simp)) _)) (by rw [hW]; have hq := ((B2.out.2.1.set 3 (Str (rtext s1 8192).1)).set 4 (Str (rtext (rtext s1 8192).2 8192).1)); simpa [dac] using hq))
            rw [← hW]
            clear hW v0 v1 v2 v3 v4 v5 v6 vl vf0 vf1 vf2 vf3 vf4 vf5 vf6
            have GE : Hid (Bk w Y1 p (actR 8192 st1).2 l a c eb (actR 8192 st1).1) := Lib.hid (by rw [show actR 8192 st1 = _ from HA.out]; simp [HKD.out]; have := CY1.out; rwa [HKD.out] at this)
            go_wp2_with fail
            go_meet
            first | exact GE | exact GE.out
          · have hk2 := hk
            clear hk
            by_cases hk : kd = 3
            · have k1 : (kd == 1) = false := by simp [hk]
              have k2 : (kd == 2) = false := by simp [hk]
              have k3 : (kd == 3) = true := by simp [hk]
              have HKD := Lib.hid hk
              clear hk
              have vc := (B0.out.2.1).cell
              have v0 := vc 0
              have v1 := vc 1
              have v2 := vc 2
              have v3 := vc 3
              have v4 := vc 4
              have v5 := vc 5
              have v6 := vc 6
              clear vc
              simp only [dac, List.getElem?_toArray, List.getElem?_cons_zero, List.getElem?_cons_succ] at v0 v1 v2 v3 v4 v5 v6
              have vl := (B0.out.2.1).lt
              have vfz := (B0.out.2.1).frozen
              have vf0 := vfz 0
              have vf1 := vfz 1
              have vf2 := vfz 2
              have vf3 := vfz 3
              have vf4 := vfz 4
              have vf5 := vfz 5
              have vf6 := vfz 6
              clear vfz
              go_wp2_with fail
              refine (bk_text B0.out 8192).mono ?_
              rintro e X1 ⟨rfl, t⟩
              have B1 := Lib.hid t
              clear t
              go_wp2_with fail
              refine (bk_text B1.out 8192).mono ?_
              rintro e X2 ⟨rfl, t⟩
              have B2 := Lib.hid t
              clear t
              clear v0 v1 v2 v3 v4 v5 v6 vl vf0 vf1 vf2 vf3 vf4 vf5 vf6
              have vc := (B2.out.2.1).cell
              have v0 := vc 0
              have v1 := vc 1
              have v2 := vc 2
              have v3 := vc 3
              have v4 := vc 4
              have v5 := vc 5
              have v6 := vc 6
              clear vc
              simp only [dac, List.getElem?_toArray, List.getElem?_cons_zero, List.getElem?_cons_succ] at v0 v1 v2 v3 v4 v5 v6
              have vl := (B2.out.2.1).lt
              have vfz := (B2.out.2.1).frozen
              have vf0 := vfz 0
              have vf1 := vfz 1
              have vf2 := vfz 2
              have vf3 := vfz 3
              have vf4 := vfz 4
              have vf5 := vfz 5
              have vf6 := vfz 6
              clear vfz
              go_upto_region 14 with fail
              obtain ⟨Y1, hW⟩ : ∃ W, W = ((X2.setCell ⟨eb, 1, none⟩ (Str (rtext s1 8192).1)).setCell ⟨eb, 2, none⟩ (Str (rtext (rtext s1 8192).2 8192).1)) := ⟨_, rfl⟩
              have CY1 : Hid (Bk w Y1 p ((rtext (rtext s1 8192).2 8192).2) l a c eb (⟨kd, (rtext s1 8192).1, (rtext (rtext s1 8192).2 8192).1, [], [], 0, 0⟩)) := Lib.hid (B2.out.put (by rw [hW]; exact (((Step.refl [eb] X2).setCell (.inl (by simp)) _).setCell (.inl (by simp)) _)) (by rw [hW]; have hq := ((B2.out.2.1.set 1 (Str (rtext s1 8192).1)).set 2 (Str (rtext (rtext s1 8192).2 8192).1)); simpa [dac] using hq))
              rw [← hW]
              clear hW v0 v1 v2 v3 v4 v5 v6 vl vf0 vf1 vf2 vf3 vf4 vf5 vf6
              have GE : Hid (Bk w Y1 p (actR 8192 st1).2 l a c eb (actR 8192 st1).1) := Lib.hid (by rw [show actR 8192 st1 = _ from HA.out]; simp [HKD.out]; have := CY1.out; rwa [HKD.out] at this)
              go_wp2_with fail
              go_meet
              first | exact GE | exact GE.out
            · have hk3 := hk
              clear hk
              have k1 : (kd == 1) = false := by simp [hk1]
              have k2 : (kd == 2) = false := by simp [hk2]
              have k3 : (kd == 3) = false := by simp [hk3]
              have HKD : Hid (¬ kd = 1 ∧ ¬ kd = 2 ∧ ¬ kd = 3) := ⟨hk1, hk2, hk3⟩
              clear hk1 hk2 hk3
              have vc := (B0.out.2.1).cell
              have v0 := vc 0
              have v1 := vc 1
              have v2 := vc 2
              have v3 := vc 3
              have v4 := vc 4
              have v5 := vc 5
              have v6 := vc 6
              clear vc
              simp only [dac, List.getElem?_toArray, List.getElem?_cons_zero, List.getElem?_cons_succ] at v0 v1 v2 v3 v4 v5 v6
              have vl := (B0.out.2.1).lt
              have vfz := (B0.out.2.1).frozen
              have vf0 := vfz 0
              have vf1 := vfz 1
              have vf2 := vfz 2
              have vf3 := vfz 3
              have vf4 := vfz 4
              have vf5 := vfz 5
              have vf6 := vfz 6
              clear vfz
              go_wp2_with fail
              refine (bk_upto B0.out (-1)).mono ?_
              rintro e X1 ⟨rfl, t⟩
              have B1 := Lib.hid t
              clear t
              have GE : Hid (Bk w X1 p (actR 8192 st1).2 l a c eb (actR 8192 st1).1) := Lib.hid (by rw [show actR 8192 st1 = _ from HA.out]; simp only [HKD.out, if_false]; have := B1.out; rwa [upto_neg] at this)
              clear v0 v1 v2 v3 v4 v5 v6 vl vf0 vf1 vf2 vf3 vf4 vf5 vf6
              go_wp2_with fail
              go_meet
              first | exact GE | exact GE.out
      case rest =>
        rename World => V
        have GE : Hid (Bk w V p (actR 8192 st1).2 l a c eb (actR 8192 st1).1) := hcut
        clear hcut B0 HA
        obtain ⟨d, hd⟩ : ∃ d, d = (actR 8192 st1).1 := ⟨_, rfl⟩
        obtain ⟨s2, hs2⟩ : ∃ s2, s2 = (actR 8192 st1).2 := ⟨_, rfl⟩
        have HSt2 : Hid ((if s2.s.length = 0 ∧ rend s2 ≠ 0 then ([], s2) else actsR (N - (k + 1)) (l ++ [d]) s2) = R) := Lib.hid (by have := HSt.out; rw [show N - k = N - (k + 1) + 1 by omega, actsR, ← hd, ← hs2] at this; exact this)
        rw [← hd, ← hs2] at GE
        clear hd hs2 HSt
        go_wp2_with fail
        refine (bk_left GE.out).mono ?_
        rintro e W9 ⟨rfl, rfl⟩
        by_cases hz : s2.s.length = 0
        · have hzb : ((s2.s.length : Int) == 0) = true := by simp [hz]
          have HZ := Lib.hid hz
          clear hz
          go_wp2_with fail
          refine (bk_end GE.out).mono ?_
          rintro e W9 ⟨rfl, rfl⟩
          by_cases hr : rend s2 = 0
          · have hrb : (rend s2 != 0) = false := by simp [hr]
            have HSt3 : Hid (actsR (N - (k + 1)) (l ++ [d]) s2 = R) := Lib.hid (by have := HSt2.out; rwa [if_neg (by simp [hr])] at this)
            clear hr
            have vc := (GE.out.2.1).cell
            have v0 := vc 0
            have v1 := vc 1
            have v2 := vc 2
            have v3 := vc 3
            have v4 := vc 4
            have v5 := vc 5
            have v6 := vc 6
            clear vc
            simp only [dac, List.getElem?_toArray, List.getElem?_cons_zero, List.getElem?_cons_succ] at v0 v1 v2 v3 v4 v5 v6
            have vl := (GE.out.2.1).lt
            have vfz := (GE.out.2.1).frozen
            have vf0 := vfz 0
            have vf1 := vfz 1
            have vf2 := vfz 2
            have vf3 := vfz 3
            have vf4 := vfz 4
            have vf5 := vfz 5
            have vf6 := vfz 6
            clear vfz
            go_upto_region 16 with fail
            clear v0 v1 v2 v3 v4 v5 v6 vl vf0 vf1 vf2 vf3 vf4 vf5 vf6
            obtain ⟨nb, hnb⟩ : ∃ nb, nb = V.heap.size := ⟨_, rfl⟩
            obtain ⟨U, hU⟩ : ∃ U, U = V.alloc (.cells (dac d).toArray 80) := ⟨_, rfl⟩
            have HRW : Hid (Row U 7 a l.length c (dacs l) ∧ Rd U 7 (some ⟨nb, 0, none⟩) 1 (dacs [d]) ∧ Step [] [] V U) := by
              rw [hU, hnb]
              exact ⟨GE.out.1.2.1.alloc _, rd_blk' (xs := dacs [d]) (by simpa [dacs] using Blk.new V 80 (dac d).toArray) 7 1 rfl, (Step.refl [] V).alloc _⟩
            have HNB := Lib.hid hnb
            have HU := Lib.hid hU
            clear hnb hU
            have vc := (GE.out.2.1).cell
            have v0 := vc 0
            have v1 := vc 1
            have v2 := vc 2
            have v3 := vc 3
            have v4 := vc 4
            have v5 := vc 5
            have v6 := vc 6
            clear vc
            simp only [dac, List.getElem?_toArray, List.getElem?_cons_zero, List.getElem?_cons_succ] at v0 v1 v2 v3 v4 v5 v6
            have vl := (GE.out.2.1).lt
            have vfz := (GE.out.2.1).frozen
            have vf0 := vfz 0
            have vf1 := vfz 1
            have vf2 := vfz 2
            have vf3 := vfz 3
            have vf4 := vfz 4
            have vf5 := vfz 5
            have vf6 := vfz 6
            clear vfz
            go_wp2_with (at_builtin; rw [show V.heap.size = nb from HNB.out.symm, show V.alloc (.cells #[.int .i64 d.kind, .string ⟨d.fr.toArray⟩, .string ⟨d.to_.toArray⟩, .string ⟨d.key.toArray⟩, .string ⟨d.val.toArray⟩, .int .i64 d.rev, .int .i64 d.most] 80) = U from HU.out.symm]; refine wpList_append_row rfl (.tmp 54) (.tmp 56) 27 27 rfl 80 i0 _ 7 88 Try.underlying27 HI.out.1 HI.out.2.1 HI.out.2.2.1 HI.out.2.2.2 rfl rfl HRW.out.1 rfl (Src.rd 27 80 Try.underlying27 HRW.out.2.1 (dacs_one _)) (by unfold maxLen; have := HLK.out; omega) (by omega) (by omega) ?_; intro a9 c9 w9 hr9 st9; have H9 : Hid (Ak w w9 p s2 (l ++ [d]) a9 c9) := Lib.hid (GE.out.grow HRW.out.2.2 st9 hr9); clear hr9 st9)
            clear v0 v1 v2 v3 v4 v5 v6 vl vf0 vf1 vf2 vf3 vf4 vf5 vf6
            go_wp2_with fail
            go_roundw
            case rel => exact ⟨k + 1, l ++ [d], a9, c9, s2, by omega, by simp; omega, by go_num, by simp [List.length_append], H9.out, HSt3.out⟩
            case measure => simp [intOf]; omega
          · have hrb : (rend s2 != 0) = true := by simp [hr]
            have HSt3 : Hid (([], s2) = R) := Lib.hid (by have := HSt2.out; rwa [if_pos ⟨HZ.out, hr⟩] at this)
            clear hr
            go_wp2_with fail
            refine bodyPost_ret (results_tmp rfl _ _ _) rfl ⟨none, 0, ?_, ?_, ?_, ?_, by simp [blks], ?_⟩
            · rw [← HR.out, ← HSt3.out]; rfl
            · rw [← HR.out, ← HSt3.out]; exact (Row.none _ 7).rd
            · rw [← HR.out, ← HSt3.out]; exact GE.out.1.1
            · exact GE.out.1.2.2.1.drop (by simp)
            · rw [← HR.out, ← HSt3.out]; exact GE.out.1.2.2.2.2.2
        · have hzb : ((s2.s.length : Int) == 0) = false := beq_eq_false_iff_ne.2 (by omega)
          have HSt3 : Hid (actsR (N - (k + 1)) (l ++ [d]) s2 = R) := Lib.hid (by have := HSt2.out; rwa [if_neg (by simp [hz])] at this)
          clear hz
          have vc := (GE.out.2.1).cell
          have v0 := vc 0
          have v1 := vc 1
          have v2 := vc 2
          have v3 := vc 3
          have v4 := vc 4
          have v5 := vc 5
          have v6 := vc 6
          clear vc
          simp only [dac, List.getElem?_toArray, List.getElem?_cons_zero, List.getElem?_cons_succ] at v0 v1 v2 v3 v4 v5 v6
          have vl := (GE.out.2.1).lt
          have vfz := (GE.out.2.1).frozen
          have vf0 := vfz 0
          have vf1 := vfz 1
          have vf2 := vfz 2
          have vf3 := vfz 3
          have vf4 := vfz 4
          have vf5 := vfz 5
          have vf6 := vfz 6
          clear vfz
          go_upto_region 16 with fail
          clear v0 v1 v2 v3 v4 v5 v6 vl vf0 vf1 vf2 vf3 vf4 vf5 vf6
          obtain ⟨nb, hnb⟩ : ∃ nb, nb = V.heap.size := ⟨_, rfl⟩
          obtain ⟨U, hU⟩ : ∃ U, U = V.alloc (.cells (dac d).toArray 80) := ⟨_, rfl⟩
          have HRW : Hid (Row U 7 a l.length c (dacs l) ∧ Rd U 7 (some ⟨nb, 0, none⟩) 1 (dacs [d]) ∧ Step [] [] V U) := by
            rw [hU, hnb]
            exact ⟨GE.out.1.2.1.alloc _, rd_blk' (xs := dacs [d]) (by simpa [dacs] using Blk.new V 80 (dac d).toArray) 7 1 rfl, (Step.refl [] V).alloc _⟩
          have HNB := Lib.hid hnb
          have HU := Lib.hid hU
          clear hnb hU
          have vc := (GE.out.2.1).cell
          have v0 := vc 0
          have v1 := vc 1
          have v2 := vc 2
          have v3 := vc 3
          have v4 := vc 4
          have v5 := vc 5
          have v6 := vc 6
          clear vc
          simp only [dac, List.getElem?_toArray, List.getElem?_cons_zero, List.getElem?_cons_succ] at v0 v1 v2 v3 v4 v5 v6
          have vl := (GE.out.2.1).lt
          have vfz := (GE.out.2.1).frozen
          have vf0 := vfz 0
          have vf1 := vfz 1
          have vf2 := vfz 2
          have vf3 := vfz 3
          have vf4 := vfz 4
          have vf5 := vfz 5
          have vf6 := vfz 6
          clear vfz
          go_wp2_with (at_builtin; rw [show V.heap.size = nb from HNB.out.symm, show V.alloc (.cells #[.int .i64 d.kind, .string ⟨d.fr.toArray⟩, .string ⟨d.to_.toArray⟩, .string ⟨d.key.toArray⟩, .string ⟨d.val.toArray⟩, .int .i64 d.rev, .int .i64 d.most] 80) = U from HU.out.symm]; refine wpList_append_row rfl (.tmp 54) (.tmp 56) 27 27 rfl 80 i0 _ 7 88 Try.underlying27 HI.out.1 HI.out.2.1 HI.out.2.2.1 HI.out.2.2.2 rfl rfl HRW.out.1 rfl (Src.rd 27 80 Try.underlying27 HRW.out.2.1 (dacs_one _)) (by unfold maxLen; have := HLK.out; omega) (by omega) (by omega) ?_; intro a9 c9 w9 hr9 st9; have H9 : Hid (Ak w w9 p s2 (l ++ [d]) a9 c9) := Lib.hid (GE.out.grow HRW.out.2.2 st9 hr9); clear hr9 st9)
          clear v0 v1 v2 v3 v4 v5 v6 vl vf0 vf1 vf2 vf3 vf4 vf5 vf6
          go_wp2_with fail
          go_roundw
          case rel => exact ⟨k + 1, l ++ [d], a9, c9, s2, by omega, by simp; omega, by go_num, by simp [List.length_append], H9.out, HSt3.out⟩
          case measure => simp [intOf]; omega
    · obtain rfl : k = N := by omega
      have HE : Hid ((l, st1) = R) := Lib.hid (by have := HW.out.2; rw [Nat.sub_self, actsR] at this; exact this)
      go_wp2_with fail
      refine bodyPost_ret (results_tmp rfl _ _ _) rfl ⟨a, c, ?_, ?_, ?_, ?_, HW.out.1.2.2.2.1, ?_⟩
      · rw [← HR.out, ← HE.out]; rfl
      · rw [← HR.out, ← HE.out]; exact HW.out.1.2.1.rd
      · rw [← HR.out, ← HE.out]; exact HW.out.1.1
      · exact HW.out.1.2.2.1.drop (by simp)
      · rw [← HR.out, ← HE.out]; exact HW.out.1.2.2.2.2.2
end Go.Proofs.Ytifjnpdnnfdcoaa
