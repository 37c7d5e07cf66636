/-
  DiskRooms: what has no room isn't put, not in part, and what has is. The row lists utf8's two tables as Go lays them. No condition beyond the row's.
-/
import Derived.Test.YtfkjgkgflkhbnaaDoorDkOne
namespace Go.Proofs.YtfkjgkgflkhbnaaDoor
open Go.RowKit Go.Lib Go.ChangeShapes Go.WideShapes Go.ChangeAt
set_option linter.unusedSimpArgs false
set_option linter.unusedVariables false
set_option maxRecDepth 100000


def nmR (k : Nat) : List UInt8 := [UInt8.ofNat (97 + k % 5)]
theorem nmR_right (k : Nat) : rightL (nmR k) = true := by
  have h5 : k % 5 < 5 := Nat.mod_lt _ (by omega)
  unfold nmR
  generalize k % 5 = j at h5
  have : ∀ j, j < 5 → rightL [UInt8.ofNat (97 + j)] = true := by decide +kernel
  exact this j h5
def RoR (w : World) (d : Nat) (room : Nat) (k u : Nat) (W : World) : Prop := ∃ S s, Dk W S d s ∧ Step [] S w W ∧ Ok6 s k ∧ s.off = false ∧ s.fuse = -1 ∧ s.room = room ∧ usedE s.E = u

set_option maxHeartbeats 2000000 in
theorem rooms06_any (room : Nat) (hroom : room < 65536) (l : List (List UInt8)) (a : Option Addr) (cap : Nat) (w : World) (hT : Tabs w) (hr : Rd w 1 a l.length (l.map fun x => Str x)) (hq : ∀ x ∈ l, x.length ≤ 140737488351232) (hl : l.length ≤ 4611686018427387904) :
    Calls Tryd.prog 4 #[.int .u16 (room : Int), .slice a l.length cap] w fun e W' => e = .returned (.bool true) ∧ Step [] [] w W' := by
  have HT := Lib.hid hT
  have HRD := Lib.hid hr
  have HQ := Lib.hid hq
  clear hT hr hq
  go_enter Tryd.func4, Tryd.ntmps4
  go_wp2_with fail
  refine (awake06_true w HT.out).mono ?_
  rintro e w1 ⟨rfl, st1⟩
  have H1 := Lib.hid st1
  clear st1
  have hrl : (room : Int) < 65536 := by omega
  have hrw : IntKind.i64.wrap (room : Int) = (room : Int) := IntWalk.i64_in _ (by omega)
  have hok : okRoom (room : Int) = true := by simp [okRoom]; omega
  go_wp2_with fail
  refine (new_ok (room : Int) w1 hok).mono ?_
  rintro e w2 ⟨S, d, rfl, hd, st2⟩
  have H2 : Hid (RoR w d room 0 0 w2) := Lib.hid ⟨S, _, hd, H1.out.trans st2, ok_new hok, rfl, rfl, rfl, rfl⟩
  clear hd st2 hok
  go_wp2_with fail
  obtain ⟨N, hN⟩ : ∃ N, N = l.length := ⟨_, rfl⟩
  rw [← hN] at hl ⊢
  have HN := Lib.hid hN
  clear hN
  go_loopw [7, 8] (fun uv i W => ∃ k u : Nat, i = .int .i64 k ∧ k ≤ N ∧ k ≤ 100 ∧ uv = .int .i64 u ∧ u ≤ room ∧ Hid (RoR w d room k u W)) (fun _ i _ => N - (intOf i).toNat)
  case atStart => exact ⟨0, 0, rfl, by omega, by omega, rfl, by omega, H2⟩
  case round =>
    rename World => W
    obtain ⟨k, u, rfl, hkN, hk1, rfl, hur, HW⟩ := hrel
    by_cases hlt : k < N
    · have hlt' : (k : Int) < N := by omega
      have hltd : decide ((k : Int) < N) = true := decide_eq_true hlt'
      by_cases h100 : (k : Int) < 100
      · have h1d : decide ((k : Int) < 100) = true := decide_eq_true h100
        obtain ⟨S, s, hD, hst, hO, ho, hf, hrm, hu⟩ := HW.out
        have HP : Hid (Dk W S d s ∧ Step [] S w W ∧ Ok6 s k ∧ s.off = false ∧ s.fuse = -1 ∧ s.room = room ∧ usedE s.E = u) := Lib.hid ⟨hD, hst, hO, ho, hf, hrm, hu⟩
        clear hD hst hO ho hf hrm hu
        obtain ⟨t, ht⟩ : ∃ t, l[k]? = some t := ⟨_, List.getElem?_eq_getElem (by rw [← HN.out]; exact hlt)⟩
        obtain ⟨g, off, hs1⟩ := HRD.out.some_ (by rw [← HN.out]; omega)
        have hr2 := HRD.out.step0 HP.out.2.1
        rw [hs1] at hr2
        have z0 := rd_txt hr2 ht
        have gl : g < W.heap.size := by have := World.block_lt_of_cell? _ _ z0; simpa using this
        have HTT : Hid (Rd w 1 (some ⟨g, off, none⟩) l.length (l.map fun x => Str x) ∧ l[k]? = some t) := Lib.hid ⟨by rw [← hs1]; exact HRD.out, ht⟩
        rw [hs1]
        clear hr2 hs1 ht
        by_cases hbig : (100000 : Int) < t.length
        · have hbd : decide ((100000 : Int) < t.length) = true := decide_eq_true hbig
          clear hbig
          go_wp2_with fail
          exact bodyPost_ret (results_tmp rfl _ _ _) rfl ⟨rfl, HP.out.2.1.drop (by simp)⟩
        · have hbd : decide ((100000 : Int) < t.length) = false := decide_eq_false hbig
          have htl : t.length ≤ 100000 := by omega
          have hm5 : (k : Int).tmod 5 = ((k % 5 : Nat) : Int) := (Int.ofNat_tmod k 5).symm
          obtain ⟨j, hj⟩ : ∃ j, j = k % 5 := ⟨_, rfl⟩
          have hj5 : j < 5 := by rw [hj]; exact Nat.mod_lt _ (by omega)
          rw [← hj] at hm5
          have HJ := Lib.hid hj
          have hw8 : IntKind.u8.wrap (97 + (j : Int)) = ((UInt8.ofNat (97 + j)).toNat : Int) := by
            have e : (UInt8.ofNat (97 + j)).toNat = 97 + j := by simp [UInt8.toNat_ofNat']; omega
            rw [e]; simp [IntKind.wrap, IntKind.bits, IntKind.signed]; omega
          obtain ⟨c, hc⟩ : ∃ c, c = UInt8.ofNat (97 + j) := ⟨_, rfl⟩
          rw [← hc] at hw8
          have HC : Hid (nmR k = [c]) := Lib.hid (by rw [nmR, hc, HJ.out])
          have hcv := run_str_of_blk (Blk.new W 5 #[.int .u8 (c.toNat : Int)]) 37 9 5 Tryd.underlying37 Tryd.underlying5 Tryd.underlying9 0 1 1 [c] rfl rfl
          clear hj hc hbig
          go_upto_region 13 with fail
          have HX : Hid (Dk (W.alloc (.cells #[.int .u8 (c.toNat : Int)] 5)) S d s ∧ Step [] S w (W.alloc (.cells #[.int .u8 (c.toNat : Int)] 5))) := Lib.hid ⟨HP.out.1.alloc' _, HP.out.2.1.alloc _⟩
          obtain ⟨X, hX⟩ : ∃ X, X = W.alloc (.cells #[.int .u8 (c.toNat : Int)] 5) := ⟨_, rfl⟩
          rw [← hX] at HX
          rw [← hX]
          clear hX z0 gl hcv hw8 hm5
          have z0 := rd_txt (HTT.out.1.step0 HX.out.2) HTT.out.2
          have gl : g < X.heap.size := by have := World.block_lt_of_cell? _ _ z0; simpa using this
          go_wp2_with fail
          have hcl := append_any (nmR k) t X S d s HX.out.1 HP.out.2.2.1.b (HT.out.step HX.out.2) ⟨by simp [nmR], by omega⟩
          rw [plain_append HP.out.2.2.2.1 HP.out.2.2.2.2.1 (nmR_right k), HP.out.2.2.2.2.2.1, HP.out.2.2.2.2.2.2, HC.out] at hcl
          by_cases hfull : (u : Int) + t.length > room
          · rw [if_pos hfull] at hcl
            refine hcl.mono ?_
            rintro e Y ⟨rfl, S3, hD3, st3⟩
            have H3 : Hid (Dk Y S3 d s ∧ Step [] S3 w Y) := Lib.hid ⟨hD3, HX.out.2.trans st3⟩
            have hle : decide ((t.length : Int) ≤ (room : Int) - (u : Int)) = false := decide_eq_false (by omega)
            clear hcl hD3 st3 hfull z0 gl
            have z0 := rd_txt (HTT.out.1.step0 H3.out.2) HTT.out.2
            have gl : g < Y.heap.size := by have := World.block_lt_of_cell? _ _ z0; simpa using this
            go_wp2_with fail
            refine (used_any Y S3 d s H3.out.1 HP.out.2.2.1.b).mono ?_
            rintro e Z ⟨rfl, st4⟩
            rw [show usedS s = u by rw [usedS, HP.out.2.2.2.1]; exact HP.out.2.2.2.2.2.2]
            have H4 : Hid (RoR w d room (k + 1) u Z) := Lib.hid ⟨S3, s, H3.out.1.keep st4, H3.out.2.trans (st4.keep S3), ok_more HP.out.2.2.1, HP.out.2.2.2⟩
            clear st4 z0 gl
            go_wp2_with fail
            go_roundw
            case rel => exact ⟨k + 1, u, by go_num, by omega, by omega, rfl, by omega, H4⟩
            case measure => simp [intOf]; omega
          · rw [if_neg hfull] at hcl
            have hsum : usedE (addE s.E [c] t) = u + t.length := by rw [used_add HP.out.1.ris, HP.out.2.2.2.2.2.2]
            have hok2 : Ok6 ⟨addE s.E [c] t, (room : Int), -1, false⟩ (k + 1) := by
              have h9 := ok_append HP.out.2.2.1 HP.out.1.ris [c] t (by simp) (by omega)
              rw [← HC.out, plain_append HP.out.2.2.2.1 HP.out.2.2.2.2.1 (nmR_right k), HP.out.2.2.2.2.2.1, HP.out.2.2.2.2.2.2, if_neg hfull, HC.out] at h9
              exact h9
            refine hcl.mono ?_
            rintro e Y ⟨rfl, S3, hD3, st3⟩
            have H3 : Hid (Dk Y S3 d ⟨addE s.E [c] t, (room : Int), -1, false⟩ ∧ Step [] S3 w Y ∧ usedE (addE s.E [c] t) = u + t.length ∧ Ok6 ⟨addE s.E [c] t, (room : Int), -1, false⟩ (k + 1)) := Lib.hid ⟨hD3, HX.out.2.trans st3, hsum, hok2⟩
            have hle : decide ((t.length : Int) ≤ (room : Int) - (u : Int)) = true := decide_eq_true (by omega)
            have hur2 : u + t.length ≤ room := by omega
            clear hcl hD3 st3 hfull z0 gl hsum hok2
            have z0 := rd_txt (HTT.out.1.step0 H3.out.2.1) HTT.out.2
            have gl : g < Y.heap.size := by have := World.block_lt_of_cell? _ _ z0; simpa using this
            go_wp2_with fail
            refine (used_any Y S3 d _ H3.out.1 H3.out.2.2.2.b).mono ?_
            rintro e Z ⟨rfl, st4⟩
            rw [show usedS ⟨addE s.E [c] t, (room : Int), -1, false⟩ = u + t.length by rw [usedS]; exact H3.out.2.2.1]
            have H4 : Hid (RoR w d room (k + 1) (u + t.length) Z) := Lib.hid ⟨S3, _, H3.out.1.keep st4, H3.out.2.1.trans (st4.keep S3), H3.out.2.2.2, rfl, rfl, rfl, H3.out.2.2.1⟩
            clear st4 z0 gl
            go_wp2_with fail
            go_roundw
            case rel => exact ⟨k + 1, u + t.length, by go_num, by omega, by omega, by go_num, by omega, H4⟩
            case measure => simp [intOf]; omega
      · have h1d : decide ((k : Int) < 100) = false := decide_eq_false h100
        obtain ⟨S, s, hD, hst, _⟩ := HW.out
        have HZ : Hid (Step [] [] w W) := Lib.hid (hst.drop (by simp))
        clear hD hst
        go_wp2_with fail
        exact bodyPost_ret (results_tmp rfl _ _ _) rfl ⟨rfl, HZ.out⟩
    · have hnl : ¬ (k : Int) < N := by omega
      have hltd : decide ((k : Int) < N) = false := decide_eq_false hnl
      obtain ⟨S, s, hD, hst, _⟩ := HW.out
      have HZ : Hid (Step [] [] w W) := Lib.hid (hst.drop (by simp))
      clear hD hst
      go_wp2_with fail
      exact bodyPost_ret (results_tmp rfl _ _ _) rfl ⟨rfl, HZ.out⟩
theorem DiskRooms_walk (v0 v1 : Value) (w : World) {b0 : Nat} (h0 : Value.okWide Tryd.prog w .any b0 36 v0) (o0 : Op Tryd.prog w 36 v0.cells.toList) (h1 : Value.okWide Tryd.prog w .any b0 22 v1) (o1 : Op Tryd.prog w 22 v1.cells.toList) (hT : Tabs w) :
    Calls Tryd.prog 4 #[v0, v1] w fun e w' => e = .returned (.bool true) ∧ Below w.heap.size w w' := by
  obtain ⟨x, rfl⟩ := okWide_int Tryd.underlying36 h0
  obtain ⟨x', e, hw⟩ := o0.int Tryd.underlying36
  simp [Value.cells] at e
  subst e
  simp [Lit.wf, IntKind.min, IntKind.max, IntKind.signed, IntKind.bits] at hw
  obtain ⟨n, rfl⟩ : ∃ n : Nat, x = n := ⟨x.toNat, by omega⟩
  obtain ⟨l, a, cap, rfl, hr, hq, hl⟩ := op_strs' h1 o1
  exact (rooms06_any n (by omega) l a cap w hT hr hq hl).mono fun e w' ⟨h1, h2⟩ => ⟨h1, h2.below0⟩

set_option maxRecDepth 100000 in
theorem DiskRooms_lifted (os : Os) (started : os.Started) (H : Type) (enc : TypeId × Value → H) :
    ReturnsInHanded {} Tryd.checked os 4 .any (fun w args => (Rows.diskRoomsSpec.pre enc Tryd.prog Tryd.f4 [] false w args ∧ laidMetH Tryd.prog tabsLaid w) ∧ sizedMet enc Tryd.prog Tryd.f4 (OpenSpec.ofChange Rows.diskRoomsSpec) false w args)
      (Rows.diskRoomsSpec.post enc Tryd.prog Tryd.f4 false true false false) := by
  refine returnsInHanded_of_change_and (C := Tryd.checked) (X := fun w _ => laidMetH Tryd.prog tabsLaid w) (fun _ _ _ hh h => h.of_heap hh) (by kernel_rfl) started (by kernel_rfl) Tryd.func4
    (ChangeSpec.witness_shaped (enc := enc) (C := Tryd.checked) (os := os) (X := fun w _ => laidMetH Tryd.prog tabsLaid w) false (World.laidAll Tryd.prog os tabsLaid) #[.int .u16 0, .slice none 0 0] 8 (World.laidAll_os _ _ _)
      (World.shaped_of_ZipB (by kernel_rfl) (by kernel_rfl)) (by kernel_rfl) (by kernel_rfl) (by kernel_rfl)
      (by rw [MakeChecks.laidMetH_plain _ _ _ (by kernel_rfl)]; exact laidMet_laidAll _ (by kernel_rfl) (by kernel_rfl))) ?_
  intro W base args ds gs before hval0 hW _ hsz0 hL _
  have hval : ∀ (j : Nat) t v, Tryd.f4.params[j]? = some t → args[j]? = some v → Value.okWide Tryd.prog W .any base t v := hval0
  have hsz : (DataW.weightsEach Tryd.prog (Tryd.f4.params.toList ++ Rows.diskRoomsSpec.plain.varTypes Tryd.prog) (ds ++ gs)).all (· ≤ reachBytes) = true := hsz0
  have hW' := hW
  have hT := tabs_of_laid hL
  obtain ⟨p, q, hA0, hV, rfl, _, _⟩ := hW
  have hA : DataW.TrodAll enc Tryd.prog W 0 (fun _ => true) true Tryd.f4.params.toList args.toList ds p := hA0
  rw [Tryd.params4] at hA hval hsz
  obtain ⟨v0, vs0, d0, ds0, p0, q0, hargs, rfl, rfl, h0, r0⟩ := trodAll_cons hA
  obtain ⟨v1, vs1, d1, ds1, p1, q1, rfl, rfl, rfl, h1, r1⟩ := trodAll_cons r0
  obtain ⟨rfl, rfl, rfl⟩ := trodAll_nil r1
  obtain rfl : args = #[v0, v1] := by cases args; simp_all
  obtain ⟨rfl, rfl⟩ := trodVars_none hV
  have lt0 : ∀ x ∈ p0, x.block < W.heap.size := by obtain ⟨m, hm⟩ := h0; exact DataW.trod_lt m _ _ _ hm
  have o0 := op_of hsz (j := 0) rfl rfl h0
  have lt1 : ∀ x ∈ p1, x.block < W.heap.size := by obtain ⟨m, hm⟩ := h1; exact DataW.trod_lt m _ _ _ hm
  have o1 := op_of hsz (j := 1) rfl rfl h1
  refine (DiskRooms_walk v0 v1 W (hval 0 _ v0 rfl rfl) o0 (hval 1 _ v1 rfl rfl) o1 hT).mono fun e W' ⟨he, bel⟩ => ?_
  subst he
  exact ⟨_, rfl, _, _, _, [], _, [], hW', trodAll_mk1 (shut_bool Tryd.underlying4 _), (trodAll_cons_mk (Below.trod (by kernel_rfl) (by kernel_rfl) (of_decide_eq_true (by kernel_rfl)) h0 bel lt0) (trodAll_cons_mk (Below.trod (by kernel_rfl) (by kernel_rfl) (of_decide_eq_true (by kernel_rfl)) h1 bel lt1) trodAll_mk0)), rfl, bel.frame _, fun h => by cases h⟩

/-- The row's statement. -/
theorem DiskRooms_row : Rows.DiskRoomsSaid :=
  OpenClaim.holds_of_wide 4 Tryd.f4 rfl rfl rfl rfl rfl rfl rfl ⟨rfl, rfl, rfl, rfl, rfl⟩ rfl rfl rfl rfl rfl (by kernel_rfl) Tryd.func4 (by kernel_rfl)
    (of_decide_eq_true (by kernel_rfl)) (by unfold Func.isWrapper; rw [if_neg (of_decide_eq_false (by kernel_rfl))]; exact ⟨rfl, rfl⟩)
    (fun os started H enc _ => DiskRooms_lifted os started H enc)
/-- The card. -/
theorem DiskRooms_holds : Rows.DiskRoomsCardSaid :=
  Claim7.holds_tied_plain_at .later [] [.data, .pinned] true Rows.diskRoomsCard.stood.harness false
    DiskRooms_row (fun _ h => by cases h) (by kernel_rfl) (fun _ h => by cases h) diskRooms_row_tie rfl ⟨rfl, rfl⟩ (by kernel_rfl) rfl
    (fun f fn hf hfn => by
      obtain rfl : f = 4 := Option.some.inj ((show Tryd.prog.funcNamed "exchequer/exchequerlaw06.DiskRooms" = some 4 by kernel_rfl).symm.trans hf) |>.symm
      obtain rfl : fn = Tryd.f4 := (Option.some.inj (Tryd.func4.symm.trans hfn)).symm
      exact ⟨by kernel_rfl, fun j t ht => by
        rw [Tryd.params4] at ht
        have hm : t ∈ [36, 22] := by simpa using Array.mem_of_getElem? ht
        have hall : ([36, 22].all fun u => !Tryd.prog.wantsStandIn u) = true := by kernel_rfl
        exact (show Tryd.prog.wantsStandIn t = false by simpa using List.all_eq_true.1 hall t hm)⟩)
    (by kernel_rfl)
#print axioms DiskRooms_holds
end Go.Proofs.YtfkjgkgflkhbnaaDoor
