/-
 WalStarts: wherever the power goes while a new log is begun, behind it there are the elder records, all that were synced, or the new ones, wholly. The row lists the library's variables as Go lays them. No condition beyond the row's.
-/
import Derived.Test.YtnkbphecabnnaaaGreatDoorZGW
namespace Go.Proofs.YtnkbphecabnnaaaGreatDoor
open Go.RowKit Go.Lib Go.ChangeShapes Go.WideShapes Go.ChangeAt Go.Maps
set_option linter.unusedSimpArgs false
set_option linter.unusedVariables false
set_option maxRecDepth 100000

/-- Two lists of records that are kept while the disk turns. -/
structure WsP (w W : World) (la ma : Option Addr) (lc mc : Nat) (l m : List Rc) (lb : Nat) (lo : Array Value) (ka : Option Addr) (S : List Nat) (d b : Nat) (x : Wl) (s : St) : Prop where
 lw : LW w W S d b x s
 rl : Row W 5 la l.length lc (rcs l)
 rm : Row W 5 ma m.length mc (rcs m)
 bl : Blk W lb 54 lo
 nl : ∀ g, g ∈ blks la → g ∉ b :: S
 nm : ∀ g, g ∈ blks ma → g ∉ b :: S
 nb : lb ∉ b :: S
section
variable {w W W1 : World} {la ma ka : Option Addr} {lc mc lb : Nat} {l m : List Rc} {lo : Array Value} {S S1 T : List Nat} {d b : Nat} {x x1 : Wl} {s s1 : St}
theorem WsP.quiet (h : WsP w W la ma lc mc l m lb lo ka S d b x s) (k : Step [] T W W1) : WsP w W1 la ma lc mc l m lb lo ka S d b x s := ⟨h.lw.quiet k, h.rl.step k (by simp), h.rm.step k (by simp), h.bl.step k (by simp), h.nl, h.nm, h.nb⟩
theorem WsP.next (h : WsP w W la ma lc mc l m lb lo ka S d b x s) (k : WM W W1 S S1 d b x1 s1) : WsP w W1 la ma lc mc l m lb lo ka S1 d b x1 s1 :=
 ⟨h.lw.next k, h.rl.step k.st h.nl, h.rm.step k.st h.nm, h.bl.step k.st h.nb, fun g hg => k.st.notin (h.rl.lt g hg) (h.nl g hg), fun g hg => k.st.notin (h.rm.lt g hg) (h.nm g hg), k.st.notin h.bl.lt h.nb⟩
theorem WsP.far (h : WsP w W la ma lc mc l m lb lo ka S d b x s) (hd : Dk W1 S1 d s1) (k : Step S S1 W W1) {b1 : Nat} (hl : LW w W1 S1 d b1 x1 s1) (hb1 : W.heap.size ≤ b1) : WsP w W1 la ma lc mc l m lb lo ka S1 d b1 x1 s1 :=
 ⟨hl, h.rl.step k (fun g hg hm => h.nl g hg (by simp [hm])), h.rm.step k (fun g hg hm => h.nm g hg (by simp [hm])), h.bl.step k (fun hm => h.nb (by simp [hm])),
  fun g hg hm => by
    rcases List.mem_cons.1 hm with e | hm
    · have := h.rl.lt g hg; omega
    · exact k.notin (h.rl.lt g hg) (fun hx => h.nl g hg (by simp [hx])) hm,
  fun g hg hm => by
    rcases List.mem_cons.1 hm with e | hm
    · have := h.rm.lt g hg; omega
    · exact k.notin (h.rm.lt g hg) (fun hx => h.nm g hg (by simp [hx])) hm,
  fun hm => by
    rcases List.mem_cons.1 hm with e | hm
    · have := h.bl.lt; omega
    · exact k.notin h.bl.lt (fun hx => h.nb (by simp [hx])) hm⟩
theorem WsP.turn (h : WsP w W la ma lc mc l m lb lo ka S d b x s) (hd : Dk W1 S1 d s1) (k : Step S S1 W W1) : WsP w W1 la ma lc mc l m lb lo ka S1 d b x s1 :=
 ⟨h.lw.turn hd k, h.rl.step k (fun g hg hm => h.nl g hg (by simp [hm])), h.rm.step k (fun g hg hm => h.nm g hg (by simp [hm])), h.bl.step k (fun hm => h.nb (by simp [hm])),
  fun g hg hm => by
    rcases List.mem_cons.1 hm with e | hm
    · exact h.nl g hg (by simp [e])
    · exact k.notin (h.rl.lt g hg) (fun hx => h.nl g hg (by simp [hx])) hm,
  fun g hg hm => by
    rcases List.mem_cons.1 hm with e | hm
    · exact h.nm g hg (by simp [e])
    · exact k.notin (h.rm.lt g hg) (fun hx => h.nm g hg (by simp [hx])) hm,
  fun hm => by
    rcases List.mem_cons.1 hm with e | hm
    · exact h.nb (by simp [e])
    · exact k.notin h.bl.lt (fun hx => h.nb (by simp [hx])) hm⟩
end
theorem op_loss {w : World} {v : Value} {b0 : Nat} (h1 : Value.okWide Tryz.prog w .any b0 54 v) (o1 : Op Tryz.prog w 54 v.cells.toList) : ∃ (n : Nat) (keep : List Int) (ka : Option Addr) (kc : Nat), v = .agg #[.int .u8 (n : Int), .slice ka keep.length kc] ∧ n < 256 ∧ Rd w 1 ka keep.length (keep.map (Value.int .i64)) ∧ keep.length ≤ maxLen := by
 obtain ⟨vs, rfl, _⟩ := okWide_aggD Tryz.underlying54 h1
 obtain ⟨hl, _⟩ := o1.struct Tryz.underlying54
 rw [show Tryz.prog.cellsOf 54 = 2 by kernel_rfl] at hl
 obtain ⟨c0, c1, e⟩ : ∃ a0 a1, (Value.agg vs).cells.toList = [a0, a1] := by
  match (Value.agg vs).cells.toList, hl with
  | [a0, a1], _ => exact ⟨a0, a1, rfl⟩
 rw [e] at o1
 have g0 := o1.field Tryz.underlying54 0 5 rfl (by kernel_rfl) rfl
 have g1 := o1.field Tryz.underlying54 1 42 rfl (by kernel_rfl) rfl
 obtain ⟨y, e0, hw⟩ := g0.int Tryz.underlying5
 obtain ⟨keep, ka, kc, e1, q1, q2, q3⟩ := op_ints g1
 simp only [List.cons.injEq, and_true] at e0 e1
 subst e0 e1
 simp [Lit.wf, IntKind.min, IntKind.max, IntKind.signed, IntKind.bits] at hw
 obtain ⟨n, rfl⟩ : ∃ n : Nat, y = n := ⟨y.toNat, by omega⟩
 have hv : vs = #[.int .u8 (n : Int), .slice ka keep.length kc] := by
  have h := congrArg List.toArray e
  simpa [Value.cells] using h
 subst hv
 exact ⟨n, keep, ka, kc, rfl, by omega, q3, by omega⟩
theorem append_one {l : List Rc} (hl : ∀ r ∈ l, rightRc r = true) {room : Int} (hr : ((head0 ++ framesB l).length : Int) ≤ room) :
  ∃ y, appendW ⟨((1 : Nat) : Int), ((1 : Nat) : Int), ((head0.length : Nat) : Int), false⟩ l ⟨logE 1 [] head0 [], room, -1, false⟩ = (0, ⟨((1 : Nat) : Int), ((1 : Nat) : Int), (((head0 ++ framesB l).length : Nat) : Int), false⟩, ⟨logE 1 [] head0 y, room, -1, false⟩) ∧ head0 ++ y = head0 ++ framesB l := by
 obtain ⟨x, y, e1, e2, rfl⟩ := append_first hl hr
 exact ⟨y, e1, e2⟩
def WlOk (x : Wl) : Prop := ∃ (f L : Nat) (z : Int), x = ⟨f, L, z, false⟩ ∧ L ≤ 999999999999 ∧ (0 ≤ z ∧ z ≤ 1000000000) ∧ True
theorem wl_ok {w : Wl} {s : St} {k : Nat} (h : WlGood w s) (hO : Ok6 s k) : WlOk w := by
 obtain ⟨⟨f, L, z, h1, h2, h3⟩, _⟩ := h
 have h4 := hO.b.used
 exact ⟨f, L, z, h1, h2, ⟨by omega, by omega⟩, trivial⟩
theorem start_sizes {l m : List Rc} (hl : l.length ≤ 40 ∧ ∀ r ∈ l, r.dt.length ≤ 1000 ∧ rightRc r = true) (hm : m.length ≤ 40 ∧ ∀ r ∈ m, r.dt.length ≤ 1000 ∧ rightRc r = true) :
  (head0 ++ framesB l).length + (begW m).length + (framesB l).length ≤ 200000 := by
 have h1 := fr_few (l := l) (fun r hr => ⟨(hl.2 r hr).2, (hl.2 r hr).1⟩) (by omega)
 have h2 := fr_few (l := m) (fun r hr => ⟨(hm.2 r hr).2, (hm.2 r hr).1⟩) (by omega)
 have h3 := frame_len (headRc m.length)
 have h4 := pay_len (headRc_ok (n := m.length) (by omega))
 have h5 : (headRc m.length).dt.length = 0 := rfl
 unfold begW
 simp only [List.length_append]
 omega
set_option maxHeartbeats 16000000 in
theorem starts07_any (l0 m0 : List Rc) (fz : Nat) (keep : List Int) (a1 a2 ka : Option Addr) (c1 c2 kc : Nat) (w : World) (hT : PTab w) (hU : Tabs w) (hr1 : Rd w 5 a1 l0.length (rcs l0)) (hr2 : Rd w 5 a2 m0.length (rcs m0)) (hb1 : ∀ r ∈ l0, r.dt.length ≤ 140737488351232) (hb2 : ∀ r ∈ m0, r.dt.length ≤ 140737488351232) (hl1 : l0.length ≤ 9223372036854775807) (hl2 : m0.length ≤ 9223372036854775807) (hf : fz < 256) (hkr : Rd w 1 ka keep.length (keep.map (Value.int .i64))) (hkl : keep.length ≤ maxLen) :
  Calls Tryz.prog 6 #[.slice a1 l0.length c1, .slice a2 m0.length c2, .agg #[.int .u8 (fz : Int), .slice ka keep.length kc]] w fun e w' => e = .returned (.bool true) ∧ Step [] [] w w' := by
 have HT := Lib.hid (And.intro hT hU)
 have HR := Lib.hid (And.intro hr1 (And.intro hr2 (And.intro hb1 (And.intro hb2 (And.intro hkr hkl)))))
 clear hT hU hr1 hr2 hb1 hb2 hkr hkl
 obtain ⟨N1, hN1⟩ : ∃ N, N = l0.length := ⟨_, rfl⟩
 obtain ⟨N2, hN2⟩ : ∃ N, N = m0.length := ⟨_, rfl⟩
 have HN := Lib.hid (And.intro hN1 hN2)
 rw [← hN1] at hl1 ⊢
 rw [← hN2] at hl2 ⊢
 clear hN1 hN2
 obtain ⟨lo, hlo⟩ : ∃ lo : Array Value, lo = #[.int .u8 (fz : Int), .slice ka keep.length kc] := ⟨_, rfl⟩
 have HLO := Lib.hid hlo
 go_enter Tryz.func6, Tryz.ntmps6
 go_upto_region 1 with fail
 obtain ⟨lb, hlb⟩ : ∃ lb, lb = w.heap.size := ⟨_, rfl⟩
 obtain ⟨V, hV⟩ : ∃ V, V = w.alloc (.cells lo 54) := ⟨_, rfl⟩
 have H0 : Hid (Blk V lb 54 lo ∧ Step [] [] w V) := by
  subst hV hlb
  exact ⟨Blk.new w _ _, (Step.refl [] w).alloc _⟩
 rw [hlo] at hV
 change Code.wp _ _ _ _ (w.alloc (.cells #[.int .u8 (fz : Int), .slice ka keep.length kc] 54))
 rw [← hV]
 try rw [← hlb]
 clear hV hlb hlo
 go_wp2_with fail
 refine (awake07_true V (HT.out.1.step H0.out.2) (HT.out.2.step H0.out.2)).mono ?_
 rintro e w1 ⟨rfl, k1⟩
 have H1 : Hid (Blk w1 lb 54 lo ∧ Step [] [] w w1) := Lib.hid ⟨H0.out.1.step k1 (by simp), H0.out.2.trans k1⟩
 clear k1 H0
 go_wp2_with fail
 have hrg := law07right_any l0 a1 c1 w1 (HR.out.1.step0 H1.out.2) (by rw [← HN.out.1]; exact hl1) HR.out.2.2.1
 rw [← HN.out.1] at hrg
 refine hrg.mono ?_
 rintro e w2 ⟨la, lc, rfl, hrow2, k2⟩
 obtain ⟨l, hl⟩ : ∃ l, l = rgL l0 := ⟨_, rfl⟩
 have HLF : Hid (l.length ≤ 40 ∧ ∀ r ∈ l, r.dt.length ≤ 1000 ∧ rightRc r = true) := Lib.hid (by rw [hl]; exact rgL_few l0)
 rw [← hl] at hrow2 ⊢
 have k20 : Step [] [] w1 w2 := k2.drop (by simp)
 have H2 : Hid (Blk w2 lb 54 lo ∧ Step [] [] w w2 ∧ Row w2 5 la l.length lc (rcs l) ∧ ∀ g, g ∈ blks la → g ≠ lb) := Lib.hid ⟨H1.out.1.step k20 (by simp), H1.out.2.trans k20, hrow2, fun g hg e => by
  rcases k2.fresh g hg with h | h
  ·simp at h
  ·have := H1.out.1.lt; omega⟩
 clear hl hrow2 k2 k20 hrg H1
 go_wp2_with fail
 have hrg := law07right_any m0 a2 c2 w2 (HR.out.2.1.step0 H2.out.2.1) (by rw [← HN.out.2]; exact hl2) HR.out.2.2.2.1
 rw [← HN.out.2] at hrg
 refine hrg.mono ?_
 rintro e w3 ⟨ma, mc, rfl, hrow3, k3⟩
 obtain ⟨m, hm⟩ : ∃ m, m = rgL m0 := ⟨_, rfl⟩
 have HMF : Hid (m.length ≤ 40 ∧ ∀ r ∈ m, r.dt.length ≤ 1000 ∧ rightRc r = true) := Lib.hid (by rw [hm]; exact rgL_few m0)
 rw [← hm] at hrow3 ⊢
 have k30 : Step [] [] w2 w3 := k3.drop (by simp)
 have H3 : Hid (Blk w3 lb 54 lo ∧ Step [] [] w w3 ∧ Row w3 5 la l.length lc (rcs l) ∧ Row w3 5 ma m.length mc (rcs m)) := Lib.hid ⟨H2.out.1.step k30 (by simp), H2.out.2.1.trans k30, H2.out.2.2.1.step k30 (by simp), hrow3⟩
 clear hm hrow3 k3 k30 hrg H2
 have HSZ := Lib.hid (start_sizes HLF.out HMF.out)
 have HLR : Hid (∀ r ∈ l, rightRc r = true) := Lib.hid (fun r hr => (HLF.out.2 r hr).2)
 have HMR : Hid (∀ r ∈ m, rightRc r = true) := Lib.hid (fun r hr => (HMF.out.2 r hr).2)
 have HLW : Hid (FewRc l) := Lib.hid ⟨by have := HLF.out.1; omega, fun r hr => by have := (HLF.out.2 r hr).1; omega⟩
 have HMW : Hid (FewRc m) := Lib.hid ⟨by have := HMF.out.1; omega, fun r hr => by have := (HMF.out.2 r hr).1; omega⟩
 obtain ⟨nl, hnl⟩ : ∃ nl, nl = l.length := ⟨_, rfl⟩
 obtain ⟨nm, hnm⟩ : ∃ nm, nm = m.length := ⟨_, rfl⟩
 have HNL := Lib.hid (And.intro hnl hnm)
 have hnl40 : nl ≤ 40 := by rw [hnl]; exact HLF.out.1
 have hnm40 : nm ≤ 40 := by rw [hnm]; exact HMF.out.1
 rw [← hnl, ← hnm]
 clear hnl hnm
 go_wp2_with fail
 refine (wnew_ok 8388608 w3 (by decide)).mono ?_
 rintro e w4 ⟨S4, d, rfl, hd4, k4⟩
 have H4 : Hid (Dk w4 S4 d (newS 8388608) ∧ Step [] S4 w w4 ∧ Blk w4 lb 54 lo ∧ Row w4 5 la l.length lc (rcs l) ∧ Row w4 5 ma m.length mc (rcs m) ∧ lb ∉ S4 ∧ (∀ g, g ∈ blks la → g ∉ S4) ∧ ∀ g, g ∈ blks ma → g ∉ S4) := Lib.hid ⟨hd4, (H3.out.2.1.drop (S'' := []) (by simp)).trans k4, H3.out.1.step k4 (by simp), H3.out.2.2.1.step k4 (by simp), H3.out.2.2.2.step k4 (by simp), k4.notin H3.out.1.lt (by simp), fun g hg => k4.notin (H3.out.2.2.1.lt g hg) (by simp), fun g hg => k4.notin (H3.out.2.2.2.lt g hg) (by simp)⟩
 clear hd4 k4 H3
 go_wp2_with fail
 have hop := wopen_any w4 S4 d (newS 8388608) 0 H4.out.1 (ok_new (by decide)) (by omega) (by intro e he; simp [newS] at he) w HT.out.1 H4.out.2.1
 rw [open_new] at hop
 refine hop.mono ?_
 intro e w5 hp
 obtain ⟨S5, b, a5, c5, rfl, hlw, _, k5, _, hb5⟩ := open_lw H4.out.2.1 hp rfl
 have H5 : Hid (WsP w w5 la ma lc mc l m lb lo ka S5 d b ⟨0, 0, 0, false⟩ (newS 8388608)) := Lib.hid ⟨hlw, H4.out.2.2.2.1.step k5 H4.out.2.2.2.2.2.2.1, H4.out.2.2.2.2.1.step k5 H4.out.2.2.2.2.2.2.2, H4.out.2.2.1.step k5 H4.out.2.2.2.2.2.1,
  fun g hg hm => by
   rcases List.mem_cons.1 hm with e | hm
   ·have := H4.out.2.2.2.1.lt g hg; omega
   ·exact k5.notin (H4.out.2.2.2.1.lt g hg) (H4.out.2.2.2.2.2.2.1 g hg) hm,
  fun g hg hm => by
   rcases List.mem_cons.1 hm with e | hm
   ·have := H4.out.2.2.2.2.1.lt g hg; omega
   ·exact k5.notin (H4.out.2.2.2.2.1.lt g hg) (H4.out.2.2.2.2.2.2.2 g hg) hm,
  fun hm => by
   rcases List.mem_cons.1 hm with e | hm
   ·have := H4.out.2.2.1.lt; omega
   ·exact k5.notin H4.out.2.2.1.lt H4.out.2.2.2.2.2.1 hm⟩
 clear hlw k5 hb5 hp hop H4
 simp only [List.length_nil]
 go_wp2_with fail
 refine (wstart_new 8388608 (by omega) w w5 S5 d b H5.out.lw HT.out.1 HT.out.2).mono ?_
 rintro e w6 ⟨rfl, S6, hm6⟩
 have H6 := Lib.hid (H5.out.next hm6)
 clear hm6 H5
 go_wp2_with fail
 obtain ⟨y, ha1, hy⟩ := append_one (l := l) HLR.out (room := 8388608) (by have := HSZ.out; omega)
 have hyl : y.length ≤ 200000 := by have h := congrArg List.length hy; have h2 := HSZ.out; rw [List.length_append] at h; omega
 have ha := wappend_any w6 S6 d b 1 1 (head0.length : Nat) false ⟨logE 1 [] head0 [], 8388608, -1, false⟩ 1 H6.out.lw.dk H6.out.lw.wl H6.out.lw.nb (ok_logE (us := []) (by have h1 := head0_len; simp [sumL]; omega) (by simp) (by omega) (by omega)) (by omega) (by omega) w HT.out.1 HT.out.2 H6.out.lw.st (by have h1 := head0_len; omega) l la lc H6.out.rl.rd trivial HLW.out
 rw [ha1, ← HNL.out.1] at ha
 refine ha.mono ?_
 rintro e w7 ⟨rfl, S7, hm7⟩
 have H7 := Lib.hid (H6.out.next hm7)
 have HY := Lib.hid hy
 clear hm7 H6 ha ha1 hy
 go_wp2_with fail
 have hs := wsync_any w7 S7 d b 1 1 (((head0 ++ framesB l).length : Nat) : Int) false ⟨logE 1 [] head0 y, 8388608, -1, false⟩ 1 H7.out.lw.dk H7.out.lw.wl H7.out.lw.nb (ok_logE (us := []) (by have h1 := head0_len; simp [sumL]; omega) (by simp) (by omega) (by omega)) (by omega) (by omega) w HT.out.1 HT.out.2 H7.out.lw.st
 rw [show syncW ⟨((1 : Nat) : Int), ((1 : Nat) : Int), (((head0 ++ framesB l).length : Nat) : Int), false⟩ ⟨logE 1 [] head0 y, 8388608, -1, false⟩ = _ from sync_first (X := head0 ++ framesB l) HY.out] at hs
 refine hs.mono ?_
 rintro e w8 ⟨rfl, S8, hm8⟩
 have H8 := Lib.hid (H7.out.next hm8)
 clear hm8 H7 hs HY hyl
 have fc := H8.out.bl.cell
 have p0 := fc 0
 have p1 := fc 1
 clear fc
 rw [HLO.out] at p0 p1
 simp only [List.getElem?_toArray, List.getElem?_cons_zero, List.getElem?_cons_succ] at p0 p1
 obtain ⟨f8, hf8⟩ : ∃ f8, f8 = fz % 8 := ⟨_, rfl⟩
 have hf8l : f8 < 8 := by omega
 have hm8a : (fz : Int) % 8 = (f8 : Int) := by omega
 have hm8b : (fz : Int).tmod 8 = (f8 : Int) := by rw [hf8]; exact (Int.ofNat_tmod fz 8).symm
 have hfw : IntKind.i64.wrap (fz : Int) = (fz : Int) := IntWalk.i64_in _ (by omega)
 clear hf8
 go_wp2_with fail
 refine (fuse_any (f8 : Int) w8 S8 d _ H8.out.lw.dk).mono ?_
 rintro e w9 ⟨rfl, hd9, k9⟩
 have H9 : Hid (WsP w w9 la ma lc mc l m lb lo ka S8 d b ⟨((1 : Nat) : Int), ((1 : Nat) : Int), (((head0 ++ framesB l).length : Nat) : Int), false⟩ ⟨logE 1 [] (head0 ++ framesB l) [], 8388608, (f8 : Int), false⟩) := Lib.hid (by
  have h := H8.out.turn hd9 k9
  rwa [show fuseS ⟨logE 1 [] (head0 ++ framesB l) [], 8388608, -1, false⟩ (f8 : Int) = ⟨logE 1 [] (head0 ++ framesB l) [], 8388608, (f8 : Int), false⟩ by unfold fuseS; simp only; congr 1; omega] at h)
 clear hd9 k9 H8 p0 p1 hm8a hm8b hfw
 go_wp2_with fail
 have HO9 : Hid (Ok6 ⟨logE 1 [] (head0 ++ framesB l) [], 8388608, (f8 : Int), false⟩ 1) := Lib.hid (ok_logE (us := []) (by have := HSZ.out; simp [sumL] at this ⊢; omega) (by simp) (by omega) (by omega))
 have hst := wstart_any w9 S8 d b 1 1 (((head0 ++ framesB l).length : Nat) : Int) false ⟨logE 1 [] (head0 ++ framesB l) [], 8388608, (f8 : Int), false⟩ 1 H9.out.lw.dk H9.out.lw.wl H9.out.lw.nb HO9.out (by omega) (by omega) w HT.out.1 HT.out.2 H9.out.lw.st (Nat.le_refl _) m ma mc H9.out.rm.rd HMW.out
 obtain ⟨q, hq⟩ : ∃ q, q = startS ⟨((1 : Nat) : Int), ((1 : Nat) : Int), (((head0 ++ framesB l).length : Nat) : Int), false⟩ m ⟨logE 1 [] (head0 ++ framesB l) [], 8388608, (f8 : Int), false⟩ := ⟨_, rfl⟩
 have HEND : Hid (StEnd l m (q.1 = 0) (crashS q.2.2 keep)) := Lib.hid (by
  rw [hq]
  exact starts_open HLR.out HMR.out (by have := HMF.out.1; omega) (by have := HSZ.out; omega) _ _ keep)
 have HOQ : Hid (Ok6 q.2.2 2) := Lib.hid (by rw [hq]; exact okw_start HO9.out H9.out.lw.dk.ris (by omega))
 have HNMQ : Hid (NmW (crashS q.2.2 keep).E) := Lib.hid (by rw [hq]; exact start_nm HMR.out _ _ (by have := HSZ.out; omega) keep)
 rw [← hq, ← HNL.out.2] at hst
 clear hq
 refine hst.mono ?_
 rintro e w10 ⟨rfl, S10, hm10⟩
 have H10 := Lib.hid (H9.out.next hm10)
 clear hm10 H9 hst HO9
 obtain ⟨er, her⟩ : ∃ er, er = q.1 := ⟨_, rfl⟩
 have HER := Lib.hid her
 rw [← her]
 clear her
 obtain ⟨dn, hdn⟩ : ∃ dn : Bool, dn = (er == 0) := ⟨_, rfl⟩
 have hdn2 : (er == 0) = dn := hdn.symm
 have HDN : Hid (dn = (q.1 == 0)) := Lib.hid (by rw [hdn, HER.out])
 clear hdn
 have fc := H10.out.bl.cell
 have p0 := fc 0
 have p1 := fc 1
 clear fc
 rw [HLO.out] at p0 p1
 simp only [List.getElem?_toArray, List.getElem?_cons_zero, List.getElem?_cons_succ] at p0 p1
 go_wp2_with fail
 refine (crash_any keep w10 S10 d q.2.2 ka kc H10.out.lw.dk HOQ.out.b (HR.out.2.2.2.2.1.step0 H10.out.lw.st) (fun hpos g hg hm => by
  obtain ⟨gk, ok, e⟩ := HR.out.2.2.2.2.1.some_ hpos
  have hlt : gk < w.heap.size := by
   have hc := HR.out.2.2.2.2.1.cell gk ok none e 0 _ (List.getElem?_eq_getElem (by simpa using hpos))
   have := World.block_lt_of_cell? _ _ hc
   simpa using this
  rw [e] at hg
  simp [blks] at hg
  subst hg
  rcases H10.out.lw.disk.fresh g hm with h | h
  ·simp at h
  ·omega) ⟨HR.out.2.2.2.2.2, HOQ.out.nm⟩).mono ?_
 rintro e w11 ⟨rfl, hd11, k11⟩
 have H11 := Lib.hid (H10.out.turn hd11 k11)
 clear hd11 k11 H10 p0 p1 hdn2
 go_wp2_with fail
 have HOC := Lib.hid (ok_crash HOQ.out keep)
 have hop := wopen_any w11 S10 d (crashS q.2.2 keep) 2 H11.out.lw.dk HOC.out (by omega) HNMQ.out w HT.out.1 H11.out.lw.disk
 have HOO := Lib.hid (open_ok HOC.out)
 obtain ⟨o, ho⟩ : ∃ o, o = openS (crashS q.2.2 keep) := ⟨_, rfl⟩
 have HE2 : Hid (o.1 = 0 ∧ (o.2.2.1 = m ∨ (¬ q.1 = 0 ∧ o.2.2.1 = l)) ∧ PutOk o.2.1 o.2.2.1 l o.2.2.2) := Lib.hid (by rw [ho]; exact HEND.out)
 rw [← ho] at hop HOO
 have HW2 : Hid (WlOk o.2.1) := Lib.hid (wl_ok HE2.out.2.2.2.2.2.2.1 HOO.out)
 clear ho HEND HNMQ HOQ HOC
 refine hop.mono ?_
 intro e w12 hp
 obtain ⟨S12, b12, a12, c12, rfl, hlw, hrow, k12, hna, hb12⟩ := open_lw H11.out.lw.disk hp HE2.out.1
 have H12 := Lib.hid (H11.out.far hlw.dk k12 hlw hb12)
 have HG : Hid (Row w12 5 a12 o.2.2.1.length c12 (rcs o.2.2.1) ∧ ∀ g, g ∈ blks a12 → g ∉ b12 :: S12) := Lib.hid ⟨hrow, fun g hg hm => by
  rcases List.mem_cons.1 hm with e | hm
  ·exact (hna g hg).2.1 e
  ·exact (hna g hg).1 hm⟩
 clear hlw hrow k12 hna hb12 hp hop H11
 obtain ⟨x, hx⟩ : ∃ x, x = o.2.1 := ⟨_, rfl⟩
 obtain ⟨gt, hgt⟩ : ∃ gt, gt = o.2.2.1 := ⟨_, rfl⟩
 obtain ⟨so, hso⟩ : ∃ so, so = o.2.2.2 := ⟨_, rfl⟩
 rw [← hx, ← hgt, ← hso] at HE2
 rw [← hx] at HW2
 rw [← hso] at HOO
 rw [← hx, ← hso] at H12
 rw [← hgt] at HG ⊢
 clear hx hgt hso
 have HGF : Hid (gt.length ≤ 40) := Lib.hid (by
  rcases HE2.out.2.1 with h | ⟨_, h⟩
  ·rw [h]; exact HMF.out.1
  ·rw [h]; exact HLF.out.1)
 obtain ⟨f, Lx, z, e1, e2, e3, e4⟩ := HW2.out
 subst e1
 obtain ⟨ng, hng⟩ : ∃ ng, ng = gt.length := ⟨_, rfl⟩
 have HNG := Lib.hid hng
 have hng40 : ng ≤ 40 := by rw [hng]; exact HGF.out
 rw [← hng]
 clear hng
 go_wp2_with fail
 have ha := wappend_any w12 S12 d b12 f Lx z false so 2 H12.out.lw.dk H12.out.lw.wl H12.out.lw.nb HOO.out (by omega) e2 w HT.out.1 HT.out.2 H12.out.lw.st e3 l la lc H12.out.rl.rd trivial HLW.out
 obtain ⟨pa, hpa⟩ : ∃ pa, pa = appendW ⟨(f : Int), (Lx : Int), z, false⟩ l so := ⟨_, rfl⟩
 have HPA := Lib.hid (okw_append (w := ⟨(f : Int), (Lx : Int), z, false⟩) (l := l) HOO.out H12.out.lw.dk.ris (by omega))
 have HPK : Hid (pa.1 = 0 ∧ (syncW pa.2.1 pa.2.2).1 = 0 ∧ (openS (syncW pa.2.1 pa.2.2).2.2).1 = 0 ∧ (openS (syncW pa.2.1 pa.2.2).2.2).2.2.1 = gt ++ l ∧ NmW (syncW pa.2.1 pa.2.2).2.2.E) := Lib.hid (by rw [hpa]; exact ⟨HE2.out.2.2.1, HE2.out.2.2.2.1, HE2.out.2.2.2.2.1, HE2.out.2.2.2.2.2.1, HE2.out.2.2.2.2.2.2.2.2⟩)
 have HWA : Hid (WlOk pa.2.1) := Lib.hid (by rw [hpa]; exact wl_ok HE2.out.2.2.2.2.2.2.2.1 HPA.out)
 rw [← hpa, ← HNL.out.1] at ha
 rw [← hpa] at HPA
 clear hpa
 refine ha.mono ?_
 rintro e w13 ⟨rfl, S13, hm13⟩
 have H13 := Lib.hid (And.intro (H12.out.next hm13) (And.intro (HG.out.1.step hm13.st HG.out.2) (fun g hg => hm13.st.notin (HG.out.1.lt g hg) (HG.out.2 g hg))))
 clear hm13 H12 ha HG HOO
 rw [HPK.out.1]
 obtain ⟨px, hpx⟩ : ∃ px, px = pa.2.1 := ⟨_, rfl⟩
 obtain ⟨ps, hps⟩ : ∃ ps, ps = pa.2.2 := ⟨_, rfl⟩
 rw [← hpx] at HWA H13 HPK
 rw [← hps] at H13 HPK HPA
 clear hpx hps
 obtain ⟨f2, L2, z2, q1, q2, q3, q4⟩ := HWA.out
 subst q1
 go_wp2_with fail
 have hs := wsync_any w13 S13 d b12 f2 L2 z2 false ps 3 H13.out.1.lw.dk H13.out.1.lw.wl H13.out.1.lw.nb HPA.out (by omega) q2 w HT.out.1 HT.out.2 H13.out.1.lw.st
 obtain ⟨pb, hpb⟩ : ∃ pb, pb = syncW ⟨(f2 : Int), (L2 : Int), z2, false⟩ ps := ⟨_, rfl⟩
 have HPB := Lib.hid (okw_sync (w := ⟨(f2 : Int), (L2 : Int), z2, false⟩) HPA.out)
 rw [← hpb] at hs HPB HPK
 clear hpb
 refine hs.mono ?_
 rintro e w14 ⟨rfl, S14, hm14⟩
 have H14 := Lib.hid (And.intro (H13.out.1.next hm14) (And.intro (H13.out.2.1.step hm14.st H13.out.2.2) (fun g hg => hm14.st.notin (H13.out.2.1.lt g hg) (H13.out.2.2 g hg))))
 clear hm14 hs H13
 rw [HPK.out.2.1]
 go_wp2_with fail
 have hop := wopen_any w14 S14 d pb.2.2 3 H14.out.1.lw.dk HPB.out (by omega) HPK.out.2.2.2.2 w HT.out.1 H14.out.1.lw.disk
 obtain ⟨o2, ho2⟩ : ∃ o, o = openS pb.2.2 := ⟨_, rfl⟩
 rw [← ho2] at hop HPK
 clear ho2
 refine hop.mono ?_
 intro e w15 hp
 obtain ⟨S15, b15, a15, c15, rfl, hlw, hrow, k15, hna, hb15⟩ := open_lw H14.out.1.lw.disk hp HPK.out.2.2.1
 rw [HPK.out.2.2.2.1] at hrow
 rw [HPK.out.2.2.2.1]
 have H15 := Lib.hid (And.intro (H14.out.1.far hlw.dk k15 hlw hb15) (And.intro (H14.out.2.1.step k15 (fun g hg hm => H14.out.2.2 g hg (by simp [hm]))) hrow))
 clear hlw k15 hna hb15 hp hop H14 hrow
 rw [show (gt ++ l).length = ng + nl by rw [List.length_append, HNG.out, HNL.out.1]]
 obtain ⟨i0, hi, hz0, hz1, hz2⟩ := info_parts Tryz.info_rec
 have HI := Lib.hid (And.intro hi (And.intro hz0 (And.intro hz1 hz2)))
 clear hi hz0 hz1 hz2
 go_upto_region 17 with fail
 obtain ⟨eb, heb⟩ : ∃ eb, eb = w15.heap.size := ⟨_, rfl⟩
 obtain ⟨U, hU0⟩ : ∃ U, U = w15.alloc (.cells #[] 45) := ⟨_, rfl⟩
 have HEB := Lib.hid (And.intro heb hU0)
 have HU0 : Hid (Row U 5 (some ⟨eb, 0, none⟩) 0 0 [] ∧ Step [] (blks (some ⟨eb, 0, none⟩)) w15 U) := Lib.hid ⟨by rw [hU0, heb]; exact Row.empty w15 45 5, by rw [hU0, heb]; have h := (Step.refl [] w15).hold (.cells #[] 45); simpa [blks] using h⟩
 have HU : Hid (Rd U 5 a12 ng (rcs gt)) := Lib.hid (by rw [HNG.out]; exact H15.out.2.1.rd.step HU0.out.2 (by simp))
 clear heb hU0
 go_wp2_with (first
  | (refine wpList_build_empty rfl 32 45 rfl i0 _ Tryz.underlying32 HI.out.1 HI.out.2.1 ?_; rw [show w15.heap.size = eb from HEB.out.1.symm, show w15.alloc (.cells #[] 45) = U from HEB.out.2.symm])
  | (at_builtin; first
   | (refine wpList_append_let rfl (.tmp 94) (.tmp 95) 32 32 rfl 45 i0 _ 5 48 Tryz.underlying32 HI.out.1 HI.out.2.1 HI.out.2.2.1 HI.out.2.2.2 rfl rfl HU0.out.1 rfl (Src.rd 32 45 Tryz.underlying32 HU.out (rcs_ones gt)) (by unfold maxLen; omega) (by omega) (by omega) ?_; intro a16 c16 w16 r16 k16; rw [Nat.zero_add] at r16 ⊢; have H16 : Hid (Row w16 5 a16 ng c16 (rcs gt) ∧ Step [] (blks a16) w15 w16 ∧ Rd w16 5 la nl (rcs l)) := Lib.hid ⟨r16, HU0.out.2.trans k16, by rw [HNL.out.1]; exact H15.out.1.rl.rd.step (HU0.out.2.trans k16) (by simp)⟩; clear r16 k16)
   | (refine wpList_append_let rfl (.tmp 96) (.tmp 97) 32 32 rfl 45 i0 _ 5 48 Tryz.underlying32 HI.out.1 HI.out.2.1 HI.out.2.2.1 HI.out.2.2.2 rfl rfl H16.out.1 rfl (Src.rd 32 45 Tryz.underlying32 H16.out.2.2 (rcs_ones l)) (by unfold maxLen; omega) (by omega) (by omega) ?_; intro a17 c17 w17 r17 k17; have H17 : Hid (Row w17 5 a17 (ng + nl) c17 (rcs gt ++ rcs l) ∧ Step [] (blks a17) w15 w17) := Lib.hid ⟨r17, H16.out.2.1.trans k17⟩; clear r17 k17)))
 have hsm := rsame_any (gt ++ l) (gt ++ l) a15 a17 c15 c17 w17 (H15.out.2.2.rd.step H17.out.2 (by simp)) (by
  have h := H17.out.1.rd
  rw [show rcs gt ++ rcs l = rcs (gt ++ l) by simp [rcs]] at h
  rwa [List.length_append, ← HNG.out, ← HNL.out.1]) (by rw [List.length_append, ← HNG.out, ← HNL.out.1]; omega)
 rw [decide_eq_true (show gt ++ l = gt ++ l from rfl), List.length_append, ← HNG.out, ← HNL.out.1] at hsm
 refine hsm.mono ?_
 rintro e w18 ⟨rfl, k18⟩
 have H18 : Hid (Step [] [] w15 w18) := Lib.hid ((H17.out.2.drop (by simp)).trans k18)
 clear hsm k18
 skip
 go_wp2_with fail
 have hs2 := rsame_any gt m a12 ma c12 mc w18 (H15.out.2.1.rd.step0 H18.out) (H15.out.1.rm.rd.step0 H18.out) (by rw [← HNG.out]; omega)
 rw [← HNG.out, ← HNL.out.2] at hs2
 have HFIN : Hid (Step [] [] w w18) := Lib.hid ((H15.out.1.lw.st.drop (by simp)).trans H18.out)
 by_cases hg : gt = m
 ·rw [decide_eq_true hg] at hs2
  have HGM := Lib.hid hg
  clear hg
  refine hs2.mono ?_
  rintro e w19 ⟨rfl, k19⟩
  have H19 : Hid (Step [] [] w w19) := Lib.hid (HFIN.out.trans k19)
  clear hs2 k19
  go_wp2_with fail
  exact bodyPost_ret (results_tmp rfl _ _ _) rfl ⟨rfl, H19.out⟩
 ·rw [decide_eq_false hg] at hs2
  have HGL : Hid (¬ q.1 = 0 ∧ gt = l) := Lib.hid (HE2.out.2.1.resolve_left hg)
  clear hg
  have hd0 : dn = false := by rw [HDN.out]; exact beq_false_of_ne HGL.out.1
  subst hd0
  refine hs2.mono ?_
  rintro e w19 ⟨rfl, k19⟩
  have H19 : Hid (Step [] [] w15 w19 ∧ Step [] [] w w19) := Lib.hid ⟨H18.out.trans k19, HFIN.out.trans k19⟩
  clear hs2 k19
  go_wp2_with fail
  have hs3 := rsame_any gt l a12 la c12 lc w19 (H15.out.2.1.rd.step0 H19.out.1) (H15.out.1.rl.rd.step0 H19.out.1) (by rw [← HNG.out]; omega)
  rw [decide_eq_true HGL.out.2, ← HNG.out, ← HNL.out.1] at hs3
  refine hs3.mono ?_
  rintro e w20 ⟨rfl, k20⟩
  have H20 : Hid (Step [] [] w w20) := Lib.hid (H19.out.2.trans k20)
  clear hs3 k20
  go_wp2_with fail
  exact bodyPost_ret (results_tmp rfl _ _ _) rfl ⟨rfl, H20.out⟩
theorem WalStarts_walk (v0 v1 v2 : Value) (w : World) {b0 : Nat} (h0 : Value.okWide Tryz.prog w .any b0 32 v0) (o0 : Op Tryz.prog w 32 v0.cells.toList) (h1 : Value.okWide Tryz.prog w .any b0 32 v1) (o1 : Op Tryz.prog w 32 v1.cells.toList) (h2 : Value.okWide Tryz.prog w .any b0 54 v2) (o2 : Op Tryz.prog w 54 v2.cells.toList) (hT : LTabs w) :
  Calls Tryz.prog 6 #[v0, v1, v2] w fun e w' => e = .returned (.bool true) ∧ Below w.heap.size w w' := by
 obtain ⟨l, a1, c1, rfl, hr1, hb1, hl1, _⟩ := op_rcs h0 o0
 obtain ⟨m, a2, c2, rfl, hr2, hb2, hl2, _⟩ := op_rcs h1 o1
 obtain ⟨n, keep, ka, kc, rfl, hn, hkr, hkl⟩ := op_loss h2 o2
 exact (starts07_any l m n keep a1 a2 ka c1 c2 kc w hT.pow hT.u8 hr1 hr2 hb1 hb2 (by omega) (by omega) hn hkr hkl).mono fun e w' ⟨h1, h2⟩ => ⟨h1, h2.below0⟩

set_option maxRecDepth 100000 in
theorem WalStarts_lifted (os : Os) (started : os.Started) (H : Type) (enc : TypeId × Value → H) :
  ReturnsInHanded {} Tryz.checked os 6 .any (fun w args => (Rows.walStartsSpec.pre enc Tryz.prog Tryz.f6 [] false w args ∧ laidMetH Tryz.prog scrLaid w) ∧ sizedMet enc Tryz.prog Tryz.f6 (OpenSpec.ofChange Rows.walStartsSpec) false w args)
   (Rows.walStartsSpec.post enc Tryz.prog Tryz.f6 false true false false) := by
 refine returnsInHanded_of_change_tabs (C := Tryz.checked) (X := fun w _ => laidMetH Tryz.prog scrLaid w) (fun _ _ _ hh h => h.of_heap hh) (by kernel_rfl) started (by kernel_rfl) Tryz.func6
  (ChangeSpec.witness_shaped (enc := enc) (C := Tryz.checked) (os := os) (X := fun w _ => laidMetH Tryz.prog scrLaid w) false (World.laidAll Tryz.prog os scrLaid) #[.slice none 0 0, .slice none 0 0, .agg #[.int .u8 0, .slice none 0 0]] 8 (World.laidAll_os _ _ _)
   (World.shaped_of_ZipB (by kernel_rfl) (by kernel_rfl)) (by kernel_rfl) (by kernel_rfl) (by kernel_rfl)
   (by rw [MakeChecks.laidMetH_plain _ _ _ (by kernel_rfl)]; exact laidMet_laidAll _ (by kernel_rfl) (by kernel_rfl))) ?_
 intro W base args ds gs before hval0 hW _ hsz0 hL hS _
 have hval : ∀ (j : Nat) t v, Tryz.f6.params[j]? = some t → args[j]? = some v → Value.okWide Tryz.prog W .any base t v := hval0
 have hsz : (DataW.weightsEach Tryz.prog (Tryz.f6.params.toList ++ Rows.walStartsSpec.plain.varTypes Tryz.prog) (ds ++ gs)).all (· ≤ reachBytes) = true := hsz0
 have hW' := hW
 have hT := stabs_of hL hS
 obtain ⟨p, q, hA0, hV, rfl, _, _⟩ := hW
 have hA : DataW.TrodAll enc Tryz.prog W 0 (fun _ => true) true Tryz.f6.params.toList args.toList ds p := hA0
 rw [Tryz.params6] at hA hval hsz
 obtain ⟨v0, vs0, d0, ds0, p0, q0, hargs, rfl, rfl, h0, r0⟩ := trodAll_cons hA
 obtain ⟨v1, vs1, d1, ds1, p1, q1, rfl, rfl, rfl, h1, r1⟩ := trodAll_cons r0
 obtain ⟨v2, vs2, d2, ds2, p2, q2, rfl, rfl, rfl, h2, r2⟩ := trodAll_cons r1
 obtain ⟨rfl, rfl, rfl⟩ := trodAll_nil r2
 obtain rfl : args = #[v0, v1, v2] := by cases args; simp_all
 obtain ⟨rfl, rfl⟩ := trodVars_none hV
 have lt0 : ∀ x ∈ p0, x.block < W.heap.size := by obtain ⟨m, hm⟩ := h0; exact DataW.trod_lt m _ _ _ hm
 have o0 := op_of hsz (j := 0) rfl rfl h0
 have lt1 : ∀ x ∈ p1, x.block < W.heap.size := by obtain ⟨m, hm⟩ := h1; exact DataW.trod_lt m _ _ _ hm
 have o1 := op_of hsz (j := 1) rfl rfl h1
 have lt2 : ∀ x ∈ p2, x.block < W.heap.size := by obtain ⟨m, hm⟩ := h2; exact DataW.trod_lt m _ _ _ hm
 have o2 := op_of hsz (j := 2) rfl rfl h2
 refine (WalStarts_walk v0 v1 v2 W (hval 0 _ v0 rfl rfl) o0 (hval 1 _ v1 rfl rfl) o1 (hval 2 _ v2 rfl rfl) o2 hT).mono fun e W' ⟨he, bel⟩ => ?_
 subst he
 exact ⟨_, rfl, _, _, _, [], _, [], hW', trodAll_mk1 (shut_bool Tryz.underlying4 _), (trodAll_cons_mk (Below.trod (by kernel_rfl) (by kernel_rfl) (of_decide_eq_true (by kernel_rfl)) h0 bel lt0) (trodAll_cons_mk (Below.trod (by kernel_rfl) (by kernel_rfl) (of_decide_eq_true (by kernel_rfl)) h1 bel lt1) (trodAll_cons_mk (Below.trod (by kernel_rfl) (by kernel_rfl) (of_decide_eq_true (by kernel_rfl)) h2 bel lt2) trodAll_mk0))), rfl, bel.frame _, fun h => by cases h⟩

/-- The row's statement. -/
theorem WalStarts_row : Rows.WalStartsSaid :=
 OpenClaim.holds_of_wide 6 Tryz.f6 rfl rfl rfl rfl rfl rfl rfl ⟨rfl, rfl, rfl, rfl, rfl⟩ rfl rfl rfl rfl rfl (by kernel_rfl) Tryz.func6 (by kernel_rfl)
  (of_decide_eq_true (by kernel_rfl)) (by unfold Func.isWrapper; rw [if_neg (of_decide_eq_false (by kernel_rfl))]; exact ⟨rfl, rfl⟩)
  (fun os started H enc _ => WalStarts_lifted os started H enc)
/-- The card. -/
theorem WalStarts_holds : Rows.WalStartsCardSaid :=
 Claim7.holds_tied_plain_at .later [] [.data, .data, .data, .data, .sentinel, .sentinel, .pinned] true Rows.walStartsCard.stood.harness true
  WalStarts_row (fun _ h => by cases h) (by kernel_rfl) (fun _ h => by cases h) walStarts_row_tie rfl ⟨rfl, rfl⟩ (by kernel_rfl) rfl
  (fun f fn hf hfn => by
   obtain rfl : f = 6 := Option.some.inj ((show Tryz.prog.funcNamed "exchequer/exchequerlaw07.WalStarts" = some 6 by kernel_rfl).symm.trans hf) |>.symm
   obtain rfl : fn = Tryz.f6 := (Option.some.inj (Tryz.func6.symm.trans hfn)).symm
   exact ⟨by kernel_rfl, fun j t ht => by
    rw [Tryz.params6] at ht
    have hm : t ∈ [32, 32, 54] := by simpa using Array.mem_of_getElem? ht
    have hall : ([32, 32, 54].all fun u => !Tryz.prog.wantsStandIn u) = true := by kernel_rfl
    exact (show Tryz.prog.wantsStandIn t = false by simpa using List.all_eq_true.1 hall t hm)⟩)
  (by kernel_rfl)
#print axioms WalStarts_holds
end Go.Proofs.YtnkbphecabnnaaaGreatDoor
