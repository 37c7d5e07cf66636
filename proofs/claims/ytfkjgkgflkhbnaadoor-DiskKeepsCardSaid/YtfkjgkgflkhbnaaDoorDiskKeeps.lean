/-
  DiskKeeps: behind a crash each file has all that was synced, and a beginning of what came behind. The row lists utf8's two tables as Go lays them. No condition beyond the row's.
-/
import Derived.Test.YtfkjgkgflkhbnaaDoorDkOne
namespace Go.Proofs.YtfkjgkgflkhbnaaDoor
open Go.RowKit Go.Lib Go.ChangeShapes Go.WideShapes Go.ChangeAt
set_option linter.unusedSimpArgs false
set_option linter.unusedVariables false
set_option maxRecDepth 100000


theorem right_f : rightL [102] = true := by kernel_rfl
def kpE (k : Nat) (a r : List UInt8) : List En := if k = 0 then [] else [⟨[102], a, r⟩]
def kpS (k : Nat) (a r : List UInt8) : St := ⟨kpE k a r, 8388608, -1, false⟩
theorem kp_used (k : Nat) (a r : List UInt8) : usedE (kpE k a r) ≤ a.length + r.length := by unfold kpE; split <;> simp [usedE]
theorem kp_ok (k : Nat) (a r : List UInt8) (h : a.length + r.length ≤ 100000) : Ok6 (kpS k a r) 1 := by
  have hl : (kpE k a r).length ≤ 1 := by unfold kpE; split <;> simp
  refine ⟨⟨by show 0 ≤ (8388608 : Int) ∧ (8388608 : Int) ≤ 8388608; omega, by show -1 ≤ (-1 : Int) ∧ (-1 : Int) ≤ 9223372036854775807; omega, Nat.le_trans (kp_used _ _ _) (by omega), Nat.le_trans hl (by omega)⟩, hl, ?_⟩
  intro f hf
  have hf : f ∈ kpE k a r := hf
  unfold kpE at hf
  split at hf
  · simp at hf
  · simp at hf; subst hf; simp
theorem kp_append (k : Nat) (a r t : List UInt8) (h : a.length + r.length ≤ 1000 * k) (hk : k < 100) (ht : t.length ≤ 1000) : appendS (kpS k a r) [102] t = (0, kpS (k + 1) a (r ++ t)) := by
  have hu := kp_used k a r
  rw [plain_append rfl rfl right_f, if_neg (by show ¬ ((usedE (kpE k a r) : Int) + t.length > 8388608); omega)]
  have ha : addE (kpS k a r).E [102] t = kpE (k + 1) a (r ++ t) := by
    show addE (kpE k a r) [102] t = _
    unfold kpE
    rw [if_neg (by omega : ¬ k + 1 = 0)]
    split
    · rename_i hz
      subst hz
      have ha : a = [] := List.eq_nil_of_length_eq_zero (by omega)
      have hr : r = [] := List.eq_nil_of_length_eq_zero (by omega)
      subst ha hr
      rfl
    · rfl
  rw [ha]
  rfl
theorem kp_sync (k : Nat) (a r : List UInt8) : syncS (kpS (k + 1) a r) [102] = (0, kpS (k + 1) (a ++ r) []) := rfl
/-- What is read behind the crash. -/
theorem kp_read (keep : List Int) (k : Nat) (a r : List UInt8) : ∃ j, j ≤ r.length ∧ readS (crashS (kpS (k + 1) a r) keep) [102] = (a ++ r.take j, 0) := by
  show ∃ j, j ≤ r.length ∧ readS ⟨crashE keep 0 [⟨[102], a, r⟩], 8388608, -1, false⟩ [102] = (a ++ r.take j, 0)
  by_cases hr : r = []
  · subst hr; exact ⟨0, Nat.le_refl _, by simp only [crashE, crashF, if_true]; rfl⟩
  · by_cases hk : keep = []
    · subst hk
      refine ⟨0, Nat.zero_le _, ?_⟩
      simp only [crashE, crashF, if_neg hr, if_true]
      show (a ++ [], (0 : Int)) = _
      simp
    · refine ⟨keepK keep 0 r.length, ?_, ?_⟩
      · unfold keepK; have := Nat.mod_lt ((keep.getD (0 % keep.length) 0 % 18446744073709551616).toNat) (show 0 < r.length + 1 by omega); omega
      · simp only [crashE, crashF, if_neg hr, if_neg hk]
        show ((a ++ r.take _) ++ [], (0 : Int)) = _
        simp
theorem kp_read0 (keep : List Int) (a r : List UInt8) : readS (crashS (kpS 0 a r) keep) [102] = ([], 8) := rfl
def KpR (w : World) (d k : Nat) (a r : List UInt8) (W : World) : Prop := ∃ S, Dk W S d (kpS k a r) ∧ Step [] S w W
/-- The flags that come in. -/
theorem op_bools {w : World} {v : Value} {b0 : Nat} (h1 : Value.okWide Tryd.prog w .any b0 23 v) (o1 : Op Tryd.prog w 23 v.cells.toList) : ∃ (l : List Bool) (a : Option Addr) (cap : Nat), v = .slice a l.length cap ∧ Rd w 1 a l.length (l.map fun x => .bool x) ∧ l.length ≤ 9223372036854775807 := by
  obtain ⟨a, n, cap, rfl⟩ := okWide_slice Tryd.underlying23 h1
  obtain ⟨a2, n2, cap2, e, h1, h2, h3, h4⟩ := o1.slice Tryd.underlying23 (sz := 1) (by kernel_rfl)
  simp [Value.cells] at e
  obtain ⟨rfl, rfl, rfl⟩ := e
  obtain ⟨l, hl, hr, _⟩ := rd_of (w := w) (fun x : Bool => [Value.bool x]) 1 (by omega) (fun _ => rfl) (a := a) (n := n) (fun _ => True) (fun i hi => by
    obtain ⟨cs', hlen, ⟨ad, hx, hc⟩, hop⟩ := h4 i hi
    obtain ⟨x, e2⟩ := hop.bool Tryd.underlying4
    subst e2
    exact ⟨x, ⟨ad, hx, hc⟩, trivial⟩)
  subst hl
  have hm : ∀ l : List Bool, (l.flatMap fun x : Bool => [Value.bool x]) = l.map fun x => .bool x := by
    intro l
    induction l with
    | nil => rfl
    | cons x r ih => rw [List.flatMap_cons, ih]; rfl
  rw [hm] at hr
  exact ⟨l, a, cap, rfl, hr, by unfold maxLen at h2; omega⟩

set_option maxHeartbeats 4000000 in
theorem keeps06_any (l : List (List UInt8)) (a : Option Addr) (cap : Nat) (sy : List Bool) (ya : Option Addr) (yc : Nat) (keep : List Int) (ka : Option Addr) (kc : Nat) (w : World) (hT : Tabs w) (hr : Rd w 1 a l.length (l.map fun x => Str x)) (hq : ∀ x ∈ l, x.length ≤ 140737488351232) (hl : l.length ≤ 4611686018427387904) (hsy : Rd w 1 ya sy.length (sy.map fun x => .bool x)) (hsl : sy.length ≤ 9223372036854775807) (hkl : keep.length ≤ maxLen) (hkr : Rd w 1 ka keep.length (keep.map (Value.int .i64))) :
    Calls Tryd.prog 3 #[.slice a l.length cap, .slice ya sy.length yc, .slice ka keep.length kc] w fun e W' => e = .returned (.bool true) ∧ Step [] [] w W' := by
  have HT := Lib.hid hT
  have HRD := Lib.hid hr
  have HQ := Lib.hid hq
  have HSY := Lib.hid (And.intro hsy hsl)
  have HKP := Lib.hid (And.intro hkl hkr)
  clear hsy hkl hkr
  clear hT hr hq
  go_enter Tryd.func3, Tryd.ntmps3
  go_wp2_with fail
  refine (awake06_true w HT.out).mono ?_
  rintro e w1 ⟨rfl, st1⟩
  have H1 := Lib.hid st1
  clear st1
  go_wp2_with fail
  refine (new_ok 8388608 w1 (by decide)).mono ?_
  rintro e w2 ⟨S, d, rfl, hd, st2⟩
  have H2 : Hid (Dk w2 S d (newS 8388608) ∧ Step [] S w w2) := Lib.hid ⟨hd, H1.out.trans st2⟩
  clear hd st2
  go_wp2_with fail
  have H3 : Hid (KpR w d 0 [] [] w2) := Lib.hid ⟨S, H2.out.1, H2.out.2⟩
  obtain ⟨N, hN⟩ : ∃ N, N = l.length := ⟨_, rfl⟩
  rw [← hN] at hl ⊢
  have HN := Lib.hid hN
  clear hN
  obtain ⟨M, hM⟩ : ∃ M, M = sy.length := ⟨_, rfl⟩
  rw [← hM] at hsl ⊢
  have HM := Lib.hid hM
  clear hM
  go_loopw [9, 10, 11] (fun sv av i W => ∃ (k : Nat) (sa sr : List UInt8), i = .int .i64 k ∧ k ≤ N ∧ k ≤ 100 ∧ sv = Str sa ∧ av = Str (sa ++ sr) ∧ sa.length + sr.length ≤ 1000 * k ∧ Hid (KpR w d k sa sr W)) (fun _ _ i _ => N - (intOf i).toNat)
  case atStart => exact ⟨0, [], [], rfl, by omega, by omega, rfl, rfl, by simp, H3⟩
  case round =>
    rename World => W
    obtain ⟨k, sa, sr, rfl, hkN, hk1, rfl, rfl, hDl, HW⟩ := hrel
    obtain ⟨S, hD, hst⟩ := HW.out
    have HP : Hid (Dk W S d (kpS k sa sr) ∧ Step [] S w W) := Lib.hid ⟨hD, hst⟩
    clear hD hst
    by_cases hlt : k < N
    · have hlt' : (k : Int) < N := by omega
      have hltd : decide ((k : Int) < N) = true := decide_eq_true hlt'
      by_cases h100 : (k : Int) < 100
      · have h1d : decide ((k : Int) < 100) = true := decide_eq_true h100
        obtain ⟨t, ht⟩ : ∃ t, l[k]? = some t := ⟨_, List.getElem?_eq_getElem (by rw [← HN.out]; exact hlt)⟩
        obtain ⟨g, off, hs1⟩ := HRD.out.some_ (by rw [← HN.out]; omega)
        have hr2 := HRD.out.step0 HP.out.2
        rw [hs1] at hr2
        have z0 := rd_txt hr2 ht
        have gl : g < W.heap.size := by have := World.block_lt_of_cell? _ _ z0; simpa using this
        have HTT : Hid (Rd w 1 (some ⟨g, off, none⟩) l.length (l.map fun x => Str x) ∧ l[k]? = some t) := Lib.hid ⟨by rw [← hs1]; exact HRD.out, ht⟩
        rw [hs1]
        clear hr2 hs1 ht
        by_cases hbig : (1000 : Int) < t.length
        · have hbd : decide ((1000 : Int) < t.length) = true := decide_eq_true hbig
          clear hbig
          go_wp2_with fail
          exact bodyPost_ret (results_tmp rfl _ _ _) rfl ⟨rfl, HP.out.2.drop (by simp)⟩
        have hbd : decide ((1000 : Int) < t.length) = false := decide_eq_false hbig
        have htl : t.length ≤ 1000 := by omega
        clear hbig
        have hok := kp_ok k sa sr (by omega)
        have HOK := Lib.hid hok
        clear hok
        go_wp2_with fail
        have hcl := append_any [102] t W S d (kpS k sa sr) HP.out.1 HOK.out.b (HT.out.step HP.out.2) ⟨by decide, by omega⟩
        rw [kp_append k sa sr t hDl (by omega) htl] at hcl
        refine hcl.mono ?_
        rintro e X ⟨rfl, S3, hD3, st3⟩
        have H5 : Hid (Dk X S3 d (kpS (k + 1) sa (sr ++ t)) ∧ Step [] S3 w X) := Lib.hid ⟨hD3, HP.out.2.trans st3⟩
        clear hcl hD3 st3 z0 gl
        have z1 := rd_txt (HTT.out.1.step0 H5.out.2) HTT.out.2
        have gl1 : g < X.heap.size := by have := World.block_lt_of_cell? _ _ z1; simpa using this
        have hcat : (sa ++ sr).length + t.length ≤ 9223372036854775807 := by rw [List.length_append]; omega
        obtain ⟨al, hall⟩ : ∃ al, al = sa ++ sr := ⟨_, rfl⟩
        rw [← hall] at hcat ⊢
        have HAL := Lib.hid hall
        clear hall
        by_cases hkm : k < M
        · have hkmd : decide ((k : Int) < M) = true := decide_eq_true (by omega)
          have hkmd2 : decide (k < M) = true := decide_eq_true hkm
          obtain ⟨fl, hfl⟩ : ∃ b, sy[k]? = some b := ⟨_, List.getElem?_eq_getElem (by rw [← HM.out]; exact hkm)⟩
          obtain ⟨g3, off3, hs3⟩ := HSY.out.1.some_ (by rw [← HM.out]; omega)
          have hr3 := HSY.out.1.step0 H5.out.2
          rw [hs3] at hr3
          have y0 := hr3.cell g3 off3 none rfl k _ (by rw [List.getElem?_map, hfl]; rfl)
          have yl : g3 < X.heap.size := by have := World.block_lt_of_cell? _ _ y0; simpa using this
          have HS3 := Lib.hid hs3
          rw [hs3]
          have hkmi : (k : Int) < M := by omega
          clear hr3 hs3 hfl
          cases fl with
          | true =>
            go_wp2_with fail
            have hcl := sync_any [102] X S3 d _ H5.out.1 (kp_ok (k + 1) sa (sr ++ t) (by rw [List.length_append]; omega)).b (by decide)
            rw [kp_sync] at hcl
            refine hcl.mono ?_
            rintro e Y ⟨rfl, S4, hD4, st4⟩
            have H6 : Hid (KpR w d (k + 1) (sa ++ (sr ++ t)) [] Y) := Lib.hid ⟨S4, hD4, H5.out.2.trans st4⟩
            clear hcl hD4 st4 y0 yl z1 gl1
            go_wp2_with fail
            rw [← HS3.out]
            go_roundw
            case rel => exact ⟨k + 1, sa ++ (sr ++ t), [], by go_num, by omega, by omega, by rw [HAL.out, List.append_assoc], by rw [HAL.out, List.append_assoc, List.append_nil], by simp; omega, H6⟩
            case measure => simp [intOf]; omega
          | false =>
            have H6 : Hid (KpR w d (k + 1) sa (sr ++ t) X) := Lib.hid ⟨S3, H5.out⟩
            go_wp2_with fail
            rw [← HS3.out]
            go_roundw
            case rel => exact ⟨k + 1, sa, sr ++ t, by go_num, by omega, by omega, rfl, by rw [HAL.out, List.append_assoc], by simp; omega, H6⟩
            case measure => simp [intOf]; omega
        · have hkmd : decide ((k : Int) < M) = false := decide_eq_false (by omega)
          have hkmd2 : decide (k < M) = false := decide_eq_false hkm
          have H6 : Hid (KpR w d (k + 1) sa (sr ++ t) X) := Lib.hid ⟨S3, H5.out⟩
          go_wp2_with fail
          go_roundw
          case rel => exact ⟨k + 1, sa, sr ++ t, by go_num, by omega, by omega, rfl, by rw [HAL.out, List.append_assoc], by simp; omega, H6⟩
          case measure => simp [intOf]; omega
      · have h1d : decide ((k : Int) < 100) = false := decide_eq_false h100
        have HKR : Hid (Rd W 1 ka keep.length (keep.map (Value.int .i64)) ∧ (0 < keep.length → ∀ g, g ∈ blks ka → g ∉ S)) := Lib.hid ⟨HKP.out.2.step0 HP.out.2, fun hp g hg hm => by
          have h1 := rd_low HKP.out.2 hp g hg
          rcases HP.out.2.fresh g hm with h | h
          · simp at h
          · omega⟩
        have hok := kp_ok k sa sr (by omega)
        have HOK := Lib.hid hok
        clear hok
        go_wp2_with fail
        refine (crash_any keep W S d (kpS k sa sr) ka kc HP.out.1 HOK.out.b HKR.out.1 HKR.out.2 ⟨HKP.out.1, HOK.out.nm⟩).mono ?_
        rintro e W9 ⟨rfl, hD9, st9⟩
        have H9 : Hid (Dk W9 S d (crashS (kpS k sa sr) keep) ∧ Step [] S w W9) := Lib.hid ⟨hD9, HP.out.2.trans st9⟩
        clear hD9 st9
        go_wp2_with fail
        have hrd := read_any [102] W9 S d _ H9.out.1 (ok_crash HOK.out keep).b (by decide)
        by_cases hk0 : k = 0
        · subst hk0
          rw [kp_read0] at hrd
          refine hrd.mono ?_
          rintro e X ⟨rfl, st10⟩
          have H10 : Hid (Step [] [] w X) := Lib.hid ((H9.out.2.trans (st10.keep S)).drop (by simp))
          have hN0 : N = 0 := by omega
          have hN0i : (N : Int) = 0 := by omega
          clear st10 hrd hlt
          go_wp2_with fail
          exact bodyPost_ret (results_tmp rfl _ _ _) rfl ⟨rfl, H10.out⟩
        · obtain ⟨k', hk'⟩ : ∃ k', k = k' + 1 := ⟨k - 1, by omega⟩
          obtain ⟨j, hj, he⟩ := kp_read keep k' sa sr
          rw [hk', he] at hrd
          refine hrd.mono ?_
          rintro e X ⟨rfl, st10⟩
          have H10 : Hid (Step [] [] w X) := Lib.hid ((H9.out.2.trans (st10.keep S)).drop (by simp))
          have hNn : ¬ (N : Int) = 0 := by omega
          have hNd : (N == 0) = false := by simp; omega
          obtain ⟨sx, hsx⟩ : ∃ sx, sx = sa ++ sr.take j := ⟨_, rfl⟩
          have hl1 : sx.length = sa.length + j := by rw [hsx, List.length_append, List.length_take]; omega
          have hpre : (sa ++ sr).take sx.length = sx := by rw [hl1, hsx, List.take_append]; simp [List.take_of_length_le]
          have hal : (sa ++ sr).length = sa.length + sr.length := List.length_append
          obtain ⟨al, hall⟩ : ∃ al, al = sa ++ sr := ⟨_, rfl⟩
          rw [← hall] at hpre hal ⊢
          rw [← hsx]
          have hg1 : decide ((sa.length : Int) ≤ (sx.length : Int)) = true := decide_eq_true (by omega)
          have hg2 : decide ((sx.length : Int) ≤ (al.length : Int)) = true := decide_eq_true (by omega)
          have hg3 : (sx.length : Int) ≤ (al.length : Int) := by omega
          have hg1n : decide (sa.length ≤ sx.length) = true := decide_eq_true (by omega)
          have hg2n : decide (sx.length ≤ al.length) = true := decide_eq_true (by omega)
          have hg3n : sx.length ≤ al.length := by omega
          clear st10 hrd he hsx hl1 hal hall hk' hj hk0
          go_wp2_with fail
          exact bodyPost_ret (results_tmp rfl _ _ _) rfl ⟨rfl, H10.out⟩
    · have hnl : ¬ (k : Int) < N := by omega
      have hltd : decide ((k : Int) < N) = false := decide_eq_false hnl
      have HKR : Hid (Rd W 1 ka keep.length (keep.map (Value.int .i64)) ∧ (0 < keep.length → ∀ g, g ∈ blks ka → g ∉ S)) := Lib.hid ⟨HKP.out.2.step0 HP.out.2, fun hp g hg hm => by
        have h1 := rd_low HKP.out.2 hp g hg
        rcases HP.out.2.fresh g hm with h | h
        · simp at h
        · omega⟩
      have hok := kp_ok k sa sr (by omega)
      have HOK := Lib.hid hok
      clear hok
      go_wp2_with fail
      refine (crash_any keep W S d (kpS k sa sr) ka kc HP.out.1 HOK.out.b HKR.out.1 HKR.out.2 ⟨HKP.out.1, HOK.out.nm⟩).mono ?_
      rintro e W9 ⟨rfl, hD9, st9⟩
      have H9 : Hid (Dk W9 S d (crashS (kpS k sa sr) keep) ∧ Step [] S w W9) := Lib.hid ⟨hD9, HP.out.2.trans st9⟩
      clear hD9 st9
      go_wp2_with fail
      have hrd := read_any [102] W9 S d _ H9.out.1 (ok_crash HOK.out keep).b (by decide)
      by_cases hk0 : k = 0
      · subst hk0
        rw [kp_read0] at hrd
        refine hrd.mono ?_
        rintro e X ⟨rfl, st10⟩
        have H10 : Hid (Step [] [] w X) := Lib.hid ((H9.out.2.trans (st10.keep S)).drop (by simp))
        have hN0 : N = 0 := by omega
        have hN0i : (N : Int) = 0 := by omega
        clear st10 hrd hlt
        go_wp2_with fail
        exact bodyPost_ret (results_tmp rfl _ _ _) rfl ⟨rfl, H10.out⟩
      · obtain ⟨k', hk'⟩ : ∃ k', k = k' + 1 := ⟨k - 1, by omega⟩
        obtain ⟨j, hj, he⟩ := kp_read keep k' sa sr
        rw [hk', he] at hrd
        refine hrd.mono ?_
        rintro e X ⟨rfl, st10⟩
        have H10 : Hid (Step [] [] w X) := Lib.hid ((H9.out.2.trans (st10.keep S)).drop (by simp))
        have hNn : ¬ (N : Int) = 0 := by omega
        have hNd : (N == 0) = false := by simp; omega
        obtain ⟨sx, hsx⟩ : ∃ sx, sx = sa ++ sr.take j := ⟨_, rfl⟩
        have hl1 : sx.length = sa.length + j := by rw [hsx, List.length_append, List.length_take]; omega
        have hpre : (sa ++ sr).take sx.length = sx := by rw [hl1, hsx, List.take_append]; simp [List.take_of_length_le]
        have hal : (sa ++ sr).length = sa.length + sr.length := List.length_append
        obtain ⟨al, hall⟩ : ∃ al, al = sa ++ sr := ⟨_, rfl⟩
        rw [← hall] at hpre hal ⊢
        rw [← hsx]
        have hg1 : decide ((sa.length : Int) ≤ (sx.length : Int)) = true := decide_eq_true (by omega)
        have hg2 : decide ((sx.length : Int) ≤ (al.length : Int)) = true := decide_eq_true (by omega)
        have hg3 : (sx.length : Int) ≤ (al.length : Int) := by omega
        have hg1n : decide (sa.length ≤ sx.length) = true := decide_eq_true (by omega)
        have hg2n : decide (sx.length ≤ al.length) = true := decide_eq_true (by omega)
        have hg3n : sx.length ≤ al.length := by omega
        clear st10 hrd he hsx hl1 hal hall hk' hj hk0
        go_wp2_with fail
        exact bodyPost_ret (results_tmp rfl _ _ _) rfl ⟨rfl, H10.out⟩
theorem DiskKeeps_walk (v0 v1 v2 : Value) (w : World) {b0 : Nat} (h0 : Value.okWide Tryd.prog w .any b0 22 v0) (o0 : Op Tryd.prog w 22 v0.cells.toList) (h1 : Value.okWide Tryd.prog w .any b0 23 v1) (o1 : Op Tryd.prog w 23 v1.cells.toList) (h2 : Value.okWide Tryd.prog w .any b0 24 v2) (o2 : Op Tryd.prog w 24 v2.cells.toList) (hT : Tabs w) :
    Calls Tryd.prog 3 #[v0, v1, v2] w fun e w' => e = .returned (.bool true) ∧ Below w.heap.size w w' := by
  obtain ⟨l, a, cap, rfl, hr, hq, hl⟩ := op_strs' h0 o0
  obtain ⟨sy, ya, yc, rfl, hsy, hsl⟩ := op_bools h1 o1
  obtain ⟨a3, n3, c3, rfl⟩ := okWide_slice Tryd.underlying24 h2
  obtain ⟨keep, ka, kc, e, hk1, hk2, hk3⟩ := op_ints o2
  simp [Value.cells] at e
  obtain ⟨rfl, rfl, rfl⟩ := e
  exact (keeps06_any l a cap sy ya yc keep _ _ w hT hr hq hl hsy hsl (Nat.le_trans hk1 hk2) hk3).mono fun e w' ⟨h1, h2⟩ => ⟨h1, h2.below0⟩

set_option maxRecDepth 100000 in
theorem DiskKeeps_lifted (os : Os) (started : os.Started) (H : Type) (enc : TypeId × Value → H) :
    ReturnsInHanded {} Tryd.checked os 3 .any (fun w args => (Rows.diskKeepsSpec.pre enc Tryd.prog Tryd.f3 [] false w args ∧ laidMetH Tryd.prog tabsLaid w) ∧ sizedMet enc Tryd.prog Tryd.f3 (OpenSpec.ofChange Rows.diskKeepsSpec) false w args)
      (Rows.diskKeepsSpec.post enc Tryd.prog Tryd.f3 false true false false) := by
  refine returnsInHanded_of_change_and (C := Tryd.checked) (X := fun w _ => laidMetH Tryd.prog tabsLaid w) (fun _ _ _ hh h => h.of_heap hh) (by kernel_rfl) started (by kernel_rfl) Tryd.func3
    (ChangeSpec.witness_shaped (enc := enc) (C := Tryd.checked) (os := os) (X := fun w _ => laidMetH Tryd.prog tabsLaid w) false (World.laidAll Tryd.prog os tabsLaid) #[.slice none 0 0, .slice none 0 0, .slice none 0 0] 8 (World.laidAll_os _ _ _)
      (World.shaped_of_ZipB (by kernel_rfl) (by kernel_rfl)) (by kernel_rfl) (by kernel_rfl) (by kernel_rfl)
      (by rw [MakeChecks.laidMetH_plain _ _ _ (by kernel_rfl)]; exact laidMet_laidAll _ (by kernel_rfl) (by kernel_rfl))) ?_
  intro W base args ds gs before hval0 hW _ hsz0 hL _
  have hval : ∀ (j : Nat) t v, Tryd.f3.params[j]? = some t → args[j]? = some v → Value.okWide Tryd.prog W .any base t v := hval0
  have hsz : (DataW.weightsEach Tryd.prog (Tryd.f3.params.toList ++ Rows.diskKeepsSpec.plain.varTypes Tryd.prog) (ds ++ gs)).all (· ≤ reachBytes) = true := hsz0
  have hW' := hW
  have hT := tabs_of_laid hL
  obtain ⟨p, q, hA0, hV, rfl, _, _⟩ := hW
  have hA : DataW.TrodAll enc Tryd.prog W 0 (fun _ => true) true Tryd.f3.params.toList args.toList ds p := hA0
  rw [Tryd.params3] at hA hval hsz
  obtain ⟨v0, vs0, d0, ds0, p0, q0, hargs, rfl, rfl, h0, r0⟩ := trodAll_cons hA
  obtain ⟨v1, vs1, d1, ds1, p1, q1, rfl, rfl, rfl, h1, r1⟩ := trodAll_cons r0
  obtain ⟨v2, vs2, d2, ds2, p2, q2, rfl, rfl, rfl, h2, r2⟩ := trodAll_cons r1
  obtain ⟨rfl, rfl, rfl⟩ := trodAll_nil r2
  obtain rfl : args = #[v0, v1, v2] := by cases args; simp_all
  obtain ⟨rfl, rfl⟩ := trodVars_none hV
  have lt0 : ∀ x ∈ p0, x.block < W.heap.size := by obtain ⟨m, hm⟩ := h0; exact DataW.trod_lt m _ _ _ hm
  have o0 := op_of hsz (j := 0) rfl rfl h0
  have lt1 : ∀ x ∈ p1, x.block < W.heap.size := by obtain ⟨m, hm⟩ := h1; exact DataW.trod_lt m _ _ _ hm
  have o1 := op_of hsz (j := 1) rfl rfl h1
  have lt2 : ∀ x ∈ p2, x.block < W.heap.size := by obtain ⟨m, hm⟩ := h2; exact DataW.trod_lt m _ _ _ hm
  have o2 := op_of hsz (j := 2) rfl rfl h2
  refine (DiskKeeps_walk v0 v1 v2 W (hval 0 _ v0 rfl rfl) o0 (hval 1 _ v1 rfl rfl) o1 (hval 2 _ v2 rfl rfl) o2 hT).mono fun e W' ⟨he, bel⟩ => ?_
  subst he
  exact ⟨_, rfl, _, _, _, [], _, [], hW', trodAll_mk1 (shut_bool Tryd.underlying4 _), (trodAll_cons_mk (Below.trod (by kernel_rfl) (by kernel_rfl) (of_decide_eq_true (by kernel_rfl)) h0 bel lt0) (trodAll_cons_mk (Below.trod (by kernel_rfl) (by kernel_rfl) (of_decide_eq_true (by kernel_rfl)) h1 bel lt1) (trodAll_cons_mk (Below.trod (by kernel_rfl) (by kernel_rfl) (of_decide_eq_true (by kernel_rfl)) h2 bel lt2) trodAll_mk0))), rfl, bel.frame _, fun h => by cases h⟩

/-- The row's statement. -/
theorem DiskKeeps_row : Rows.DiskKeepsSaid :=
  OpenClaim.holds_of_wide 3 Tryd.f3 rfl rfl rfl rfl rfl rfl rfl ⟨rfl, rfl, rfl, rfl, rfl⟩ rfl rfl rfl rfl rfl (by kernel_rfl) Tryd.func3 (by kernel_rfl)
    (of_decide_eq_true (by kernel_rfl)) (by unfold Func.isWrapper; rw [if_neg (of_decide_eq_false (by kernel_rfl))]; exact ⟨rfl, rfl⟩)
    (fun os started H enc _ => DiskKeeps_lifted os started H enc)
/-- The card. -/
theorem DiskKeeps_holds : Rows.DiskKeepsCardSaid :=
  Claim7.holds_tied_plain_at .later [] [.data, .pinned] true Rows.diskKeepsCard.stood.harness false
    DiskKeeps_row (fun _ h => by cases h) (by kernel_rfl) (fun _ h => by cases h) diskKeeps_row_tie rfl ⟨rfl, rfl⟩ (by kernel_rfl) rfl
    (fun f fn hf hfn => by
      obtain rfl : f = 3 := Option.some.inj ((show Tryd.prog.funcNamed "exchequer/exchequerlaw06.DiskKeeps" = some 3 by kernel_rfl).symm.trans hf) |>.symm
      obtain rfl : fn = Tryd.f3 := (Option.some.inj (Tryd.func3.symm.trans hfn)).symm
      exact ⟨by kernel_rfl, fun j t ht => by
        rw [Tryd.params3] at ht
        have hm : t ∈ [22, 23, 24] := by simpa using Array.mem_of_getElem? ht
        have hall : ([22, 23, 24].all fun u => !Tryd.prog.wantsStandIn u) = true := by kernel_rfl
        exact (show Tryd.prog.wantsStandIn t = false by simpa using List.all_eq_true.1 hall t hm)⟩)
    (by kernel_rfl)
#print axioms DiskKeeps_holds
end Go.Proofs.YtfkjgkgflkhbnaaDoor
