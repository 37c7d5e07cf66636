/-
  DiskFuses: with a fuse of n just the first n operations are done, and the next one turns the power off. The row lists utf8's two tables as Go lays them. No condition beyond the row's.
-/
import Derived.Test.YtfkjgkgflkhbnaaDoorDkOne
namespace Go.Proofs.YtfkjgkgflkhbnaaDoor
open Go.RowKit Go.Lib Go.ChangeShapes Go.WideShapes Go.ChangeAt
set_option linter.unusedSimpArgs false
set_option linter.unusedVariables false
set_option maxRecDepth 100000


def fsE (c : Nat) (D : List UInt8) : List En := if c = 0 then [] else [⟨[102], [], D⟩]
def fsS (n k : Nat) (D : List UInt8) : St := ⟨fsE (min k n) D, 8388608, (n : Int) - (min k n : Nat), decide (n < k)⟩
theorem fs_used (c : Nat) (D : List UInt8) : usedE (fsE c D) ≤ D.length := by unfold fsE; split <;> simp [usedE]
theorem fs_len (c : Nat) (D : List UInt8) : (fsE c D).length ≤ 1 := by unfold fsE; split <;> simp
theorem fs_b (n k : Nat) (D : List UInt8) (hn : n < 256) (hD : D.length ≤ 100000) : StB (fsS n k D) := by
  refine ⟨by show 0 ≤ (8388608 : Int) ∧ (8388608 : Int) ≤ 8388608; omega, ?_, ?_, ?_⟩
  · show -1 ≤ (n : Int) - (min k n : Nat) ∧ (n : Int) - (min k n : Nat) ≤ 9223372036854775807; omega
  · exact Nat.le_trans (fs_used _ _) (by omega)
  · exact Nat.le_trans (fs_len _ _) (by omega)
theorem fs_nm (n k : Nat) (D : List UInt8) : ∀ f ∈ (fsS n k D).E, f.n.length ≤ 1099511627776 := by
  intro f hf
  have hf : f ∈ fsE (min k n) D := hf
  unfold fsE at hf
  split at hf
  · simp at hf
  · simp at hf; subst hf; simp
theorem right_f : rightL [102] = true := by kernel_rfl
theorem fs_step (n k : Nat) (D t : List UInt8) (hk : k < 100) (hD : D.length ≤ 1000 * k) (h0 : min k n = 0 → D = []) (ht : t.length ≤ 1000) :
    appendS (fsS n k D) [102] t = (if k < n then 0 else 7, fsS n (k + 1) (if k < n then D ++ t else D)) := by
  have hu := fs_used (min k n) D
  unfold appendS
  by_cases h1 : k < n
  · have e1 : min k n = k := by omega
    have e2 : min (k + 1) n = k + 1 := by omega
    have ho : (fsS n k D).off = false := by simp [fsS]; omega
    have hb : (fsS n k D).burn.off = false := by simp only [St.burn, ho, Bool.false_or]; simp only [fsS, e1, decide_eq_false_iff_not]; omega
    have hf : (fsS n k D).burn.fuse = (n : Int) - ((k + 1 : Nat) : Int) := by simp only [St.burn, fsS, e1]; rw [if_pos (by omega)]; omega
    simp only [ho, right_f, hb, hf, Bool.false_eq_true, if_false, Bool.true_eq_false]
    rw [if_neg (by show ¬ ((usedE (fsE (min k n) D) : Int) + t.length > 8388608); omega), if_pos h1, if_pos h1]
    have ha : addE (fsS n k D).E [102] t = fsE (k + 1) (D ++ t) := by
      show addE (fsE (min k n) D) [102] t = _
      rw [e1]
      unfold fsE
      rw [if_neg (by omega : ¬ k + 1 = 0)]
      split
      · rename_i hk0
        have : D = [] := h0 (by omega)
        subst this
        rfl
      · rfl
    rw [ha]
    simp only [fsS, e2, Prod.mk.injEq, St.mk.injEq, true_and]
    refine ⟨rfl, ?_⟩
    simp; omega
  · rw [if_neg h1, if_neg h1]
    have e1 : min k n = n := by omega
    have e2 : min (k + 1) n = n := by omega
    by_cases h2 : n < k
    · have ho : (fsS n k D).off = true := by simp [fsS]; omega
      simp only [ho, if_true]
      simp only [fsS, e1, e2, Prod.mk.injEq, St.mk.injEq, true_and]
      simp; omega
    · have hkn : k = n := by omega
      subst hkn
      have ho : (fsS k k D).off = false := by simp [fsS]
      have hb : (fsS k k D).burn.off = true := by simp [St.burn, fsS, e1]
      simp only [ho, right_f, hb, Bool.false_eq_true, if_false, Bool.true_eq_false, if_true]
      rw [if_neg (by show ¬ ((usedE (fsE (min k k) D) : Int) + t.length > 8388608); omega)]
      simp [St.burn, fsS]
theorem fs_read (n k : Nat) (D : List UInt8) (ho : decide (n < k) = false) (h0 : min k n = 0 → D = []) : (readS (fsS n k D) [102]).1 = D := by
  unfold readS
  have h : (fsS n k D).off = false := ho
  simp only [h, Bool.false_eq_true, if_false]
  rw [show (fsS n k D).E = fsE (min k n) D from rfl]
  by_cases hz : min k n = 0
  · rw [fsE, if_pos hz, h0 hz]; rfl
  · rw [fsE, if_neg hz]; rfl
theorem fs_crash (n k : Nat) (D : List UInt8) (hD : D.length ≤ 100000) (h0 : min k n = 0 → D = []) : (readS (crashS (fsS n k D) [(D.length : Int)]) [102]).1 = D := by
  show (readS ⟨crashE [(D.length : Int)] 0 (fsE (min k n) D), 8388608, -1, false⟩ [102]).1 = D
  unfold fsE
  split
  · rename_i hz; rw [h0 hz]; rfl
  · have hk : keepK [(D.length : Int)] 0 D.length = D.length := by
      simp only [keepK, List.length_singleton, Nat.mod_one, List.getD_cons_zero]
      rw [Int.emod_eq_of_lt (by omega) (by omega), Int.toNat_natCast, Nat.mod_eq_of_lt (by omega)]
    by_cases hd : D = []
    · subst hd; rfl
    · have e : crashE [(D.length : Int)] 0 [⟨[102], [], D⟩] = [⟨[102], D, []⟩] := by
        simp only [crashE, crashF, if_neg hd, if_neg (show ¬ [(D.length : Int)] = [] by simp), hk, List.nil_append, List.take_length]
      rw [e]
      show (D ++ [] : List UInt8) = D
      simp
def FuR (w : World) (d n k : Nat) (D : List UInt8) (W : World) : Prop := (∃ S, Dk W S d (fsS n k D) ∧ Step [] S w W) ∧ (min k n = 0 → D = [])
theorem FuR.next {w W1 : World} {d n k : Nat} {D t : List UInt8} {S' : List Nat} (h0 : min k n = 0 → D = []) (hD : Dk W1 S' d (fsS n (k + 1) (if k < n then D ++ t else D))) (hst : Step [] S' w W1) : FuR w d n (k + 1) (if k < n then D ++ t else D) W1 := by
  refine ⟨⟨S', hD, hst⟩, fun hz => ?_⟩
  have hn : n = 0 := by omega
  subst hn
  rw [if_neg (by omega)]
  exact h0 (by omega)

set_option maxHeartbeats 2000000 in
theorem fuses06_any (n : Nat) (hn : n < 256) (l : List (List UInt8)) (a : Option Addr) (cap : Nat) (w : World) (hT : Tabs w) (hr : Rd w 1 a l.length (l.map fun x => Str x)) (hq : ∀ x ∈ l, x.length ≤ 140737488351232) (hl : l.length ≤ 4611686018427387904) :
    Calls Tryd.prog 5 #[.slice a l.length cap, .int .u8 (n : Int)] w fun e W' => e = .returned (.bool true) ∧ Step [] [] w W' := by
  have HT := Lib.hid hT
  have HRD := Lib.hid hr
  have HQ := Lib.hid hq
  clear hT hr hq
  go_enter Tryd.func5, Tryd.ntmps5
  go_wp2_with fail
  refine (awake06_true w HT.out).mono ?_
  rintro e w1 ⟨rfl, st1⟩
  have H1 := Lib.hid st1
  clear st1
  go_wp2_with fail
  refine (new_ok 8388608 w1 (by decide)).mono ?_
  rintro e w2 ⟨S, d, rfl, hd, st2⟩
  have H2 : Hid (Dk w2 S d (newS 8388608) ∧ Step [] S w w2) := Lib.hid ⟨hd, H1.out.trans st2⟩
  clear hd st2
  go_wp2_with fail
  refine (fuse_any (n : Int) w2 S d _ H2.out.1).mono ?_
  rintro e w3 ⟨rfl, hd3, st3⟩
  have h30 : fuseS (newS 8388608) (n : Int) = fsS n 0 [] := by
    simp only [fuseS, newS, fsS, fsE, Nat.zero_min, if_true]
    rw [show max (n : Int) (-1) = (n : Int) by omega]
    simp
  rw [h30] at hd3
  have H3 : Hid (FuR w d n 0 [] w3) := Lib.hid ⟨⟨S, hd3, H2.out.2.trans st3⟩, fun _ => rfl⟩
  clear hd3 st3 h30
  go_wp2_with fail
  obtain ⟨N, hN⟩ : ∃ N, N = l.length := ⟨_, rfl⟩
  rw [← hN] at hl ⊢
  have HN := Lib.hid hN
  clear hN
  go_loopw [7, 8] (fun dv i W => ∃ (k : Nat) (D : List UInt8), i = .int .i64 k ∧ k ≤ N ∧ k ≤ 100 ∧ dv = Str D ∧ D.length ≤ 1000 * k ∧ Hid (FuR w d n k D W)) (fun _ i _ => N - (intOf i).toNat)
  case atStart => exact ⟨0, [], rfl, by omega, by omega, rfl, by simp, H3⟩
  case round =>
    rename World => W
    obtain ⟨k, D, rfl, hkN, hk1, rfl, hDl, HW⟩ := hrel
    by_cases hlt : k < N
    · have hlt' : (k : Int) < N := by omega
      have hltd : decide ((k : Int) < N) = true := decide_eq_true hlt'
      by_cases h100 : (k : Int) < 100
      · have h1d : decide ((k : Int) < 100) = true := decide_eq_true h100
        obtain ⟨⟨S, hD, hst⟩, h0⟩ := HW.out
        have HP : Hid (Dk W S d (fsS n k D) ∧ Step [] S w W ∧ (min k n = 0 → D = [])) := Lib.hid ⟨hD, hst, h0⟩
        clear hD hst h0
        obtain ⟨t, ht⟩ : ∃ t, l[k]? = some t := ⟨_, List.getElem?_eq_getElem (by rw [← HN.out]; exact hlt)⟩
        obtain ⟨g, off, hs1⟩ := HRD.out.some_ (by rw [← HN.out]; omega)
        have hr2 := HRD.out.step0 HP.out.2.1
        rw [hs1] at hr2
        have z0 := rd_txt hr2 ht
        have gl : g < W.heap.size := by have := World.block_lt_of_cell? _ _ z0; simpa using this
        have HTT : Hid (Rd w 1 (some ⟨g, off, none⟩) l.length (l.map fun x => Str x) ∧ l[k]? = some t) := Lib.hid ⟨by rw [← hs1]; exact HRD.out, ht⟩
        rw [hs1]
        clear hr2 hs1 ht
        by_cases hbig : (1000 : Int) < t.length
        · have hbd : decide ((1000 : Int) < t.length) = true := decide_eq_true hbig
          clear hbig
          go_wp2_with fail
          exact bodyPost_ret (results_tmp rfl _ _ _) rfl ⟨rfl, HP.out.2.1.drop (by simp)⟩
        have hbd : decide ((1000 : Int) < t.length) = false := decide_eq_false hbig
        have htl : t.length ≤ 1000 := by omega
        clear hbig
        go_wp2_with fail
        have hcl := append_any [102] t W S d (fsS n k D) HP.out.1 (fs_b n k D hn (by omega)) (HT.out.step HP.out.2.1) ⟨by decide, by omega⟩
        rw [fs_step n k D t (by omega) hDl HP.out.2.2 htl] at hcl
        by_cases hkn : k < n
        · rw [if_pos hkn, if_pos hkn] at hcl
          refine hcl.mono ?_
          rintro e X ⟨rfl, S3, hD3, st3⟩
          have hD4 : Dk X S3 d (fsS n (k + 1) (D ++ t)) := hD3
          have hfr := FuR.next (t := t) HP.out.2.2 (by rw [if_pos hkn]; exact hD4) (HP.out.2.1.trans st3)
          rw [if_pos hkn] at hfr
          have HFR := Lib.hid hfr
          have hknd : decide ((k : Int) < n) = true := decide_eq_true (by omega)
          have hknd2 : decide (k < n) = true := decide_eq_true hkn
          have hst3 := HP.out.2.1.trans st3
          have z1 := rd_txt (HTT.out.1.step0 hst3) HTT.out.2
          have gl1 : g < X.heap.size := by have := World.block_lt_of_cell? _ _ z1; simpa using this
          have hcat : D.length + t.length ≤ 9223372036854775807 := by omega
          clear hcl hD3 hD4 st3 hfr hkn z0 gl hst3
          go_wp2_with fail
          go_roundw
          case rel => exact ⟨k + 1, D ++ t, by go_num, by omega, by omega, rfl, by rw [List.length_append]; omega, HFR⟩
          case measure => simp [intOf]; omega
        · rw [if_neg hkn, if_neg hkn] at hcl
          refine hcl.mono ?_
          rintro e X ⟨rfl, S3, hD3, st3⟩
          have hD4 : Dk X S3 d (fsS n (k + 1) D) := hD3
          have hfr := FuR.next (t := t) HP.out.2.2 (by rw [if_neg hkn]; exact hD4) (HP.out.2.1.trans st3)
          rw [if_neg hkn] at hfr
          have HFR := Lib.hid hfr
          have hknd : decide ((k : Int) < n) = false := decide_eq_false (by omega)
          have hknd2 : decide (k < n) = false := decide_eq_false hkn
          obtain ⟨mm, LL, hq1, _⟩ := hD4
          have hdn := down_any X d mm _ _ _ hq1.blk
          have hoff : (fsS n (k + 1) D).off = true := by simp [fsS]; omega
          rw [hoff] at hdn
          have HDN := Lib.hid hdn
          clear hcl hD3 st3 hfr hkn z0 gl hq1 hdn hoff
          go_wp2_with fail
          refine HDN.out.mono ?_
          rintro e W9 ⟨rfl, rfl⟩
          go_wp2_with fail
          go_roundw
          case rel => exact ⟨k + 1, D, by go_num, by omega, by omega, rfl, by omega, HFR⟩
          case measure => simp [intOf]; omega
      · have h1d : decide ((k : Int) < 100) = false := decide_eq_false h100
        obtain ⟨⟨S, hD, hst⟩, h0⟩ := HW.out
        have HP : Hid (Dk W S d (fsS n k D) ∧ Step [] S w W ∧ (min k n = 0 → D = [])) := Lib.hid ⟨hD, hst, h0⟩
        clear hD hst h0
        obtain ⟨mm, LL, hq1, _⟩ := HP.out.1
        have hdn := down_any W d mm (fsS n k D).room (fsS n k D).fuse (fsS n k D).off hq1.blk
        have HDN := Lib.hid hdn
        clear hq1 hdn
        go_wp2_with fail
        refine HDN.out.mono ?_
        rintro e W9 ⟨rfl, rfl⟩
        cases hof : decide (n < k) with
        | true =>
          rw [show (fsS n k D).off = true from hof]
          have HOF := Lib.hid hof
          clear hof
          go_wp2_with fail
          have hcl := crash_any [(D.length : Int)] (W.alloc (.cells #[.int .i64 (D.length : Int)] 3)) S d (fsS n k D) (some ⟨W.heap.size, 0, none⟩) 1 (HP.out.1.alloc' _) (fs_b n k D hn (by omega)) (rd_blk' (xs := [.int .i64 (D.length : Int)]) (Blk.new W _ _) 1 1 rfl) (by intro _ g hg hm; simp [blks] at hg; have := HP.out.1.lt g hm; omega) ⟨by unfold maxLen; simp, fs_nm n k D⟩
          refine hcl.mono ?_
          rintro e W9 ⟨rfl, hD9, st9⟩
          have H9 : Hid (Dk W9 S d (crashS (fsS n k D) [(D.length : Int)]) ∧ Step [] S w W9) := Lib.hid ⟨hD9, (HP.out.2.1.alloc _).trans st9⟩
          clear hD9 st9 hcl
          go_wp2_with fail
          have hok : Ok6 (fsS n k D) 1 := ⟨fs_b n k D hn (by omega), fs_len _ _, fs_nm n k D⟩
          refine (read_any [102] W9 S d _ H9.out.1 (ok_crash hok _).b (by decide)).mono ?_
          rintro e X ⟨rfl, st10⟩
          have H10 : Hid (Step [] [] w X) := Lib.hid ((H9.out.2.trans (st10.keep S)).drop (by simp))
          have hre := fs_crash n k D (by omega) HP.out.2.2
          rw [hre]
          clear st10 hre hok
          go_wp2_with fail
          exact bodyPost_ret (results_tmp rfl _ _ _) rfl ⟨rfl, H10.out⟩
        | false =>
          rw [show (fsS n k D).off = false from hof]
          have HOF := Lib.hid hof
          clear hof
          go_wp2_with fail
          refine (read_any [102] W S d _ HP.out.1 (fs_b n k D hn (by omega)) (by decide)).mono ?_
          rintro e X ⟨rfl, st10⟩
          have H10 : Hid (Step [] [] w X) := Lib.hid ((HP.out.2.1.trans (st10.keep S)).drop (by simp))
          have hre := fs_read n k D HOF.out HP.out.2.2
          rw [hre]
          clear st10 hre
          go_wp2_with fail
          exact bodyPost_ret (results_tmp rfl _ _ _) rfl ⟨rfl, H10.out⟩
    · have hnl : ¬ (k : Int) < N := by omega
      have hltd : decide ((k : Int) < N) = false := decide_eq_false hnl
      obtain ⟨⟨S, hD, hst⟩, h0⟩ := HW.out
      have HP : Hid (Dk W S d (fsS n k D) ∧ Step [] S w W ∧ (min k n = 0 → D = [])) := Lib.hid ⟨hD, hst, h0⟩
      clear hD hst h0
      obtain ⟨mm, LL, hq1, _⟩ := HP.out.1
      have hdn := down_any W d mm (fsS n k D).room (fsS n k D).fuse (fsS n k D).off hq1.blk
      have HDN := Lib.hid hdn
      clear hq1 hdn
      go_wp2_with fail
      refine HDN.out.mono ?_
      rintro e W9 ⟨rfl, rfl⟩
      cases hof : decide (n < k) with
      | true =>
        rw [show (fsS n k D).off = true from hof]
        have HOF := Lib.hid hof
        clear hof
        go_wp2_with fail
        have hcl := crash_any [(D.length : Int)] (W.alloc (.cells #[.int .i64 (D.length : Int)] 3)) S d (fsS n k D) (some ⟨W.heap.size, 0, none⟩) 1 (HP.out.1.alloc' _) (fs_b n k D hn (by omega)) (rd_blk' (xs := [.int .i64 (D.length : Int)]) (Blk.new W _ _) 1 1 rfl) (by intro _ g hg hm; simp [blks] at hg; have := HP.out.1.lt g hm; omega) ⟨by unfold maxLen; simp, fs_nm n k D⟩
        refine hcl.mono ?_
        rintro e W9 ⟨rfl, hD9, st9⟩
        have H9 : Hid (Dk W9 S d (crashS (fsS n k D) [(D.length : Int)]) ∧ Step [] S w W9) := Lib.hid ⟨hD9, (HP.out.2.1.alloc _).trans st9⟩
        clear hD9 st9 hcl
        go_wp2_with fail
        have hok : Ok6 (fsS n k D) 1 := ⟨fs_b n k D hn (by omega), fs_len _ _, fs_nm n k D⟩
        refine (read_any [102] W9 S d _ H9.out.1 (ok_crash hok _).b (by decide)).mono ?_
        rintro e X ⟨rfl, st10⟩
        have H10 : Hid (Step [] [] w X) := Lib.hid ((H9.out.2.trans (st10.keep S)).drop (by simp))
        have hre := fs_crash n k D (by omega) HP.out.2.2
        rw [hre]
        clear st10 hre hok
        go_wp2_with fail
        exact bodyPost_ret (results_tmp rfl _ _ _) rfl ⟨rfl, H10.out⟩
      | false =>
        rw [show (fsS n k D).off = false from hof]
        have HOF := Lib.hid hof
        clear hof
        go_wp2_with fail
        refine (read_any [102] W S d _ HP.out.1 (fs_b n k D hn (by omega)) (by decide)).mono ?_
        rintro e X ⟨rfl, st10⟩
        have H10 : Hid (Step [] [] w X) := Lib.hid ((HP.out.2.1.trans (st10.keep S)).drop (by simp))
        have hre := fs_read n k D HOF.out HP.out.2.2
        rw [hre]
        clear st10 hre
        go_wp2_with fail
        exact bodyPost_ret (results_tmp rfl _ _ _) rfl ⟨rfl, H10.out⟩
theorem DiskFuses_walk (v0 v1 : Value) (w : World) {b0 : Nat} (h0 : Value.okWide Tryd.prog w .any b0 22 v0) (o0 : Op Tryd.prog w 22 v0.cells.toList) (h1 : Value.okWide Tryd.prog w .any b0 5 v1) (o1 : Op Tryd.prog w 5 v1.cells.toList) (hT : Tabs w) :
    Calls Tryd.prog 5 #[v0, v1] w fun e w' => e = .returned (.bool true) ∧ Below w.heap.size w w' := by
  obtain ⟨x, rfl⟩ := okWide_int Tryd.underlying5 h1
  obtain ⟨x', e, hw⟩ := o1.int Tryd.underlying5
  simp [Value.cells] at e
  subst e
  simp [Lit.wf, IntKind.min, IntKind.max, IntKind.signed, IntKind.bits] at hw
  obtain ⟨n, rfl⟩ : ∃ n : Nat, x = n := ⟨x.toNat, by omega⟩
  obtain ⟨l, a, cap, rfl, hr, hq, hl⟩ := op_strs' h0 o0
  exact (fuses06_any n (by omega) l a cap w hT hr hq hl).mono fun e w' ⟨h1, h2⟩ => ⟨h1, h2.below0⟩

set_option maxRecDepth 100000 in
theorem DiskFuses_lifted (os : Os) (started : os.Started) (H : Type) (enc : TypeId × Value → H) :
    ReturnsInHanded {} Tryd.checked os 5 .any (fun w args => (Rows.diskFusesSpec.pre enc Tryd.prog Tryd.f5 [] false w args ∧ laidMetH Tryd.prog tabsLaid w) ∧ sizedMet enc Tryd.prog Tryd.f5 (OpenSpec.ofChange Rows.diskFusesSpec) false w args)
      (Rows.diskFusesSpec.post enc Tryd.prog Tryd.f5 false true false false) := by
  refine returnsInHanded_of_change_and (C := Tryd.checked) (X := fun w _ => laidMetH Tryd.prog tabsLaid w) (fun _ _ _ hh h => h.of_heap hh) (by kernel_rfl) started (by kernel_rfl) Tryd.func5
    (ChangeSpec.witness_shaped (enc := enc) (C := Tryd.checked) (os := os) (X := fun w _ => laidMetH Tryd.prog tabsLaid w) false (World.laidAll Tryd.prog os tabsLaid) #[.slice none 0 0, .int .u8 0] 8 (World.laidAll_os _ _ _)
      (World.shaped_of_ZipB (by kernel_rfl) (by kernel_rfl)) (by kernel_rfl) (by kernel_rfl) (by kernel_rfl)
      (by rw [MakeChecks.laidMetH_plain _ _ _ (by kernel_rfl)]; exact laidMet_laidAll _ (by kernel_rfl) (by kernel_rfl))) ?_
  intro W base args ds gs before hval0 hW _ hsz0 hL _
  have hval : ∀ (j : Nat) t v, Tryd.f5.params[j]? = some t → args[j]? = some v → Value.okWide Tryd.prog W .any base t v := hval0
  have hsz : (DataW.weightsEach Tryd.prog (Tryd.f5.params.toList ++ Rows.diskFusesSpec.plain.varTypes Tryd.prog) (ds ++ gs)).all (· ≤ reachBytes) = true := hsz0
  have hW' := hW
  have hT := tabs_of_laid hL
  obtain ⟨p, q, hA0, hV, rfl, _, _⟩ := hW
  have hA : DataW.TrodAll enc Tryd.prog W 0 (fun _ => true) true Tryd.f5.params.toList args.toList ds p := hA0
  rw [Tryd.params5] at hA hval hsz
  obtain ⟨v0, vs0, d0, ds0, p0, q0, hargs, rfl, rfl, h0, r0⟩ := trodAll_cons hA
  obtain ⟨v1, vs1, d1, ds1, p1, q1, rfl, rfl, rfl, h1, r1⟩ := trodAll_cons r0
  obtain ⟨rfl, rfl, rfl⟩ := trodAll_nil r1
  obtain rfl : args = #[v0, v1] := by cases args; simp_all
  obtain ⟨rfl, rfl⟩ := trodVars_none hV
  have lt0 : ∀ x ∈ p0, x.block < W.heap.size := by obtain ⟨m, hm⟩ := h0; exact DataW.trod_lt m _ _ _ hm
  have o0 := op_of hsz (j := 0) rfl rfl h0
  have lt1 : ∀ x ∈ p1, x.block < W.heap.size := by obtain ⟨m, hm⟩ := h1; exact DataW.trod_lt m _ _ _ hm
  have o1 := op_of hsz (j := 1) rfl rfl h1
  refine (DiskFuses_walk v0 v1 W (hval 0 _ v0 rfl rfl) o0 (hval 1 _ v1 rfl rfl) o1 hT).mono fun e W' ⟨he, bel⟩ => ?_
  subst he
  exact ⟨_, rfl, _, _, _, [], _, [], hW', trodAll_mk1 (shut_bool Tryd.underlying4 _), (trodAll_cons_mk (Below.trod (by kernel_rfl) (by kernel_rfl) (of_decide_eq_true (by kernel_rfl)) h0 bel lt0) (trodAll_cons_mk (Below.trod (by kernel_rfl) (by kernel_rfl) (of_decide_eq_true (by kernel_rfl)) h1 bel lt1) trodAll_mk0)), rfl, bel.frame _, fun h => by cases h⟩

/-- The row's statement. -/
theorem DiskFuses_row : Rows.DiskFusesSaid :=
  OpenClaim.holds_of_wide 5 Tryd.f5 rfl rfl rfl rfl rfl rfl rfl ⟨rfl, rfl, rfl, rfl, rfl⟩ rfl rfl rfl rfl rfl (by kernel_rfl) Tryd.func5 (by kernel_rfl)
    (of_decide_eq_true (by kernel_rfl)) (by unfold Func.isWrapper; rw [if_neg (of_decide_eq_false (by kernel_rfl))]; exact ⟨rfl, rfl⟩)
    (fun os started H enc _ => DiskFuses_lifted os started H enc)
/-- The card. -/
theorem DiskFuses_holds : Rows.DiskFusesCardSaid :=
  Claim7.holds_tied_plain_at .later [] [.data, .pinned] true Rows.diskFusesCard.stood.harness false
    DiskFuses_row (fun _ h => by cases h) (by kernel_rfl) (fun _ h => by cases h) diskFuses_row_tie rfl ⟨rfl, rfl⟩ (by kernel_rfl) rfl
    (fun f fn hf hfn => by
      obtain rfl : f = 5 := Option.some.inj ((show Tryd.prog.funcNamed "exchequer/exchequerlaw06.DiskFuses" = some 5 by kernel_rfl).symm.trans hf) |>.symm
      obtain rfl : fn = Tryd.f5 := (Option.some.inj (Tryd.func5.symm.trans hfn)).symm
      exact ⟨by kernel_rfl, fun j t ht => by
        rw [Tryd.params5] at ht
        have hm : t ∈ [22, 5] := by simpa using Array.mem_of_getElem? ht
        have hall : ([22, 5].all fun u => !Tryd.prog.wantsStandIn u) = true := by kernel_rfl
        exact (show Tryd.prog.wantsStandIn t = false by simpa using List.all_eq_true.1 hall t hm)⟩)
    (by kernel_rfl)
#print axioms DiskFuses_holds
end Go.Proofs.YtfkjgkgflkhbnaaDoor
