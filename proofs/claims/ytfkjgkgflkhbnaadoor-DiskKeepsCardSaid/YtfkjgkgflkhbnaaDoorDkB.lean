/-
  A disk's New, Fuse, Room, Read, Sync, Remove, Cut in memory; and each on no disk. Conditions: bounds that each disk of the laws keeps.
-/
import Derived.Test.YtfkjgkgflkhbnaaDoorDkA
namespace Go.Proofs.YtfkjgkgflkhbnaaDoor
open Go.RowKit Go.Maps
set_option linter.unusedSimpArgs false
set_option linter.unusedVariables false
set_option maxRecDepth 100000

structure StB (s : St) : Prop where
  room : 0 ≤ s.room ∧ s.room ≤ 8388608
  fuse : -1 ≤ s.fuse ∧ s.fuse ≤ 9223372036854775807
  used : usedE s.E ≤ 8388608
  len : s.E.length ≤ 1099511627776
/-- An answer by a number; the disk is what the plain words say. -/
def DkP (r : Int × St) (S : List Nat) (d : Nat) (w : World) (e : Ending) (w' : World) : Prop := e = .returned (.int .i64 r.1) ∧ ∃ S', Dk w' S' d r.2 ∧ Step S S' w w'
def NoP (w : World) (e : Ending) (w' : World) : Prop := e = .returned (.int .i64 7) ∧ w = w'
theorem cut_gt (f : Fil) (j i : Nat) (h : ¬ j ≤ f.d.length) (hi : j = f.d.length + i) : cutF ((j : Int)).toNat f.en = (⟨f.n, f.b, f.d, f.l.take i⟩ : Fil).en := by
  subst hi
  show (if f.d.length + i ≤ f.d.length then _ else _) = _
  rw [if_neg h]
  have e : ((f.d.length + i : Nat) : Int).toNat - f.d.length = i := by omega
  simp only [Fil.en, e]
theorem burn_fuse (s : St) : s.burn.fuse = burnF s.fuse := rfl
theorem burn_off (s : St) : s.burn.off = burnO s.fuse s.off := rfl
theorem en_used {L : List Fil} {s : St} (hL : L.map Fil.en = s.E) (hB : StB s) {f : Fil} (hf : f ∈ L) : f.d.length + f.l.length ≤ 8388608 := by
  have := used_mem (E := s.E) (f := f.en) (by rw [← hL]; exact List.mem_map.2 ⟨f, hf, rfl⟩)
  have h2 := hB.used
  simp only [Fil.en] at this
  omega

theorem new_any (room : Int) (w : World) : Calls Tryd.prog 9 #[.int .i64 room] w fun e w' => ((okRoom room = true ∧ ∃ S' d, e = .returned (.tuple #[.pointer (some ⟨d, 0, none⟩), .int .i64 0]) ∧ Dk w' S' d (newS room) ∧ Step [] S' w w') ∨ (okRoom room = false ∧ e = .returned (.tuple #[.pointer none, .int .i64 1]) ∧ Step [] [] w w')) := by
  have hmm := @run_makeMap Tryd.prog
  go_enter Tryd.func9, Tryd.ntmps9
  by_cases h0 : room < 0
  · have hd : decide (room < 0) = true := decide_eq_true h0
    have HV : Hid (okRoom room = false) := Lib.hid (by simp [okRoom]; omega)
    clear h0
    go_wp2_with fail
    refine bodyPost_ret (v := .tuple #[.pointer none, .int .i64 1]) ?_ rfl (.inr ⟨HV.out, rfl, Step.refl _ _⟩)
    simp [results, Tryd.results9, go_sem]
  have hd0 : decide (room < 0) = false := decide_eq_false h0
  by_cases h1 : (8388608 : Int) < room
  · have hd : decide ((8388608 : Int) < room) = true := decide_eq_true h1
    have HV : Hid (okRoom room = false) := Lib.hid (by simp [okRoom]; omega)
    clear h1 h0
    go_wp2_with fail
    refine bodyPost_ret (v := .tuple #[.pointer none, .int .i64 1]) ?_ rfl (.inr ⟨HV.out, rfl, Step.refl _ _⟩)
    simp [results, Tryd.results9, go_sem]
  have hd1 : decide ((8388608 : Int) < room) = false := decide_eq_false h1
  have HV : Hid (okRoom room = true) := Lib.hid (by simp [okRoom]; omega)
  clear h0 h1
  go_wp2_with fail
  refine bodyPost_ret (v := .tuple #[.pointer (some ⟨w.heap.size + 1, 0, none⟩), .int .i64 0]) ?_ rfl (.inl ⟨HV.out, [w.heap.size + 1, w.heap.size], w.heap.size + 1, rfl, ?_, ?_⟩)
  · simp [results, Tryd.results9, go_sem]
  · have hb := Blk.new (w.alloc (.map #[] 0)) 58 (dkc w.heap.size room (-1) false)
    rw [World.size_alloc] at hb
    refine ⟨w.heap.size, [], ⟨rfl, hb, ?_, by simp, List.Pairwise.nil, by simp⟩, rfl⟩
    exact (World.ownsMap_made w Tryd.prog 9 ptrElem).alloc _
  · exact ((Step.refl [] w).alloc _).alloc _ |>.wide (by simp) (by intro k hk; simp only [List.mem_cons, List.not_mem_nil, or_false] at hk; rcases hk with rfl | rfl <;> exact .inr (.inr (by omega)))

theorem fuse_nil (n : Int) (w : World) : Calls Tryd.prog 15 #[.pointer none, .int .i64 n] w fun e w' => e = .returned (.tuple #[]) ∧ w = w' := by
  go_enter Tryd.func15, Tryd.ntmps15
  go_wp2_with fail
  exact bodyPost_end (results_none rfl _ _ _) rfl ⟨rfl, rfl⟩
theorem fuse_any (n : Int) (w : World) (S : List Nat) (d : Nat) (s : St) (h : Dk w S d s) : Calls Tryd.prog 15 #[.pointer (some ⟨d, 0, none⟩), .int .i64 n] w fun e w' => e = .returned (.tuple #[]) ∧ Dk w' S d (fuseS s n) ∧ Step S S w w' := by
  obtain ⟨m, L, h1, h2⟩ := h
  have c2 := h1.blk.cell 2
  simp only [List.getElem?_toArray, List.getElem?_cons_zero, List.getElem?_cons_succ] at c2
  have f2 := h1.blk.frozen 2
  have fl := h1.blk.lt
  have HB := Lib.hid (And.intro h1 h2)
  clear h1 h2
  go_enter Tryd.func15, Tryd.ntmps15
  go_wp2_with fail
  have hk : Step [d] [d] w (w.setCell ⟨d, 2, none⟩ (.int .i64 (max n (-1)))) := (Step.refl [d] w).setCell (p := ⟨d, 2, none⟩) (.inl (by simp)) _
  refine bodyPost_end (results_none rfl _ _ _) rfl ⟨rfl, ⟨m, L, HB.out.1.head hk ?_, HB.out.2⟩, hk.wide (by intro k hk; simp only [List.mem_singleton] at hk; rw [hk, HB.out.1.hS]; simp) (by intro k hk; exact .inl hk)⟩
  simpa [fuseS] using HB.out.1.blk.set 2 (.int .i64 (max n (-1)))
theorem room_nil (n : Int) (w : World) : Calls Tryd.prog 24 #[.pointer none, .int .i64 n] w (NoP w) := by
  go_enter Tryd.func24, Tryd.ntmps24
  go_wp2_with fail
  exact bodyPost_ret (results_tmp rfl _ _ _) rfl ⟨rfl, rfl⟩
theorem room_any (n : Int) (w : World) (S : List Nat) (d : Nat) (s : St) (h : Dk w S d s) : Calls Tryd.prog 24 #[.pointer (some ⟨d, 0, none⟩), .int .i64 n] w (DkP (roomS s n) S d w) := by
  obtain ⟨m, L, h1, h2⟩ := h
  have c1 := h1.blk.cell 1
  simp only [List.getElem?_toArray, List.getElem?_cons_zero, List.getElem?_cons_succ] at c1
  have f1 := h1.blk.frozen 1
  have fl := h1.blk.lt
  have HB := Lib.hid (And.intro h1 h2)
  clear h1 h2
  go_enter Tryd.func24, Tryd.ntmps24
  by_cases h0 : n < 0
  · have hd : decide (n < 0) = true := decide_eq_true h0
    have HV : Hid (okRoom n = false) := Lib.hid (by simp [okRoom]; omega)
    clear h0
    go_wp2_with fail
    refine bodyPost_ret (results_tmp rfl _ _ _) rfl ?_
    simp only [DkP, roomS, HV.out, Bool.false_eq_true, if_false]
    exact ⟨rfl, S, ⟨m, L, HB.out⟩, Step.refl _ _⟩
  have hd0 : decide (n < 0) = false := decide_eq_false h0
  by_cases h1 : (8388608 : Int) < n
  · have hd : decide ((8388608 : Int) < n) = true := decide_eq_true h1
    have HV : Hid (okRoom n = false) := Lib.hid (by simp [okRoom]; omega)
    clear h1 h0
    go_wp2_with fail
    refine bodyPost_ret (results_tmp rfl _ _ _) rfl ?_
    simp only [DkP, roomS, HV.out, Bool.false_eq_true, if_false]
    exact ⟨rfl, S, ⟨m, L, HB.out⟩, Step.refl _ _⟩
  have hd1 : decide ((8388608 : Int) < n) = false := decide_eq_false h1
  have HV : Hid (okRoom n = true) := Lib.hid (by simp [okRoom]; omega)
  clear h0 h1
  go_wp2_with fail
  have hk : Step [d] [d] w (w.setCell ⟨d, 1, none⟩ (.int .i64 n)) := (Step.refl [d] w).setCell (p := ⟨d, 1, none⟩) (.inl (by simp)) _
  refine bodyPost_ret (results_tmp rfl _ _ _) rfl ?_
  simp only [DkP, roomS, HV.out, if_true]
  refine ⟨rfl, S, ⟨m, L, HB.out.1.head hk ?_, HB.out.2⟩, hk.wide (by intro k hk; simp only [List.mem_singleton] at hk; rw [hk, HB.out.1.hS]; simp) (by intro k hk; exact .inl hk)⟩
  simpa using HB.out.1.blk.set 1 (.int .i64 n)

theorem Dkm.drop {w w' : World} {S : List Nat} {d m : Nat} {A B : List Fil} {f : Fil} {room fuse : Int} {off : Bool} (h : Dkm w S d m (A ++ f :: B) room fuse off) {n : Nat} (ho : w'.ownsMap Tryd.prog 9 ptrElem m n ((dat (A ++ f :: B)).del (.string f.n))) (hk : Step [m] [m] w w') : Dkm w' (d :: m :: (A ++ B).map Fil.b) d m (A ++ B) room fuse off := by
  have hm := h.m_ne h.blk
  rw [dat_del, del_mid h.ris] at ho
  have hr := h.ris
  have hnod := h.nod
  refine ⟨rfl, h.blk.step hk (by simpa using fun e => hm e.symm), owns_size ho, fun x hx => (h.fil x ?_).step hk ?_, ?_, ?_⟩
  · rcases List.mem_append.1 hx with hx | hx <;> simp [hx]
  · have := h.m_ne (h.fil x (by rcases List.mem_append.1 hx with hx | hx <;> simp [hx]))
    simpa using fun e => this e.symm
  · unfold Ris at *
    obtain ⟨h1, h2, h3⟩ := List.pairwise_append.1 hr
    exact List.pairwise_append.2 ⟨h1, (List.pairwise_cons.1 h2).2, fun a ha b hb => h3 a ha b (by simp [hb])⟩
  · rw [List.map_append, List.map_cons] at hnod
    obtain ⟨n1, n2, n3⟩ := List.nodup_append.1 hnod
    rw [List.map_append]
    exact List.nodup_append.2 ⟨n1, (List.nodup_cons.1 n2).2, fun a ha b hb => n3 a ha b (by simp [hb])⟩

theorem read_nil (x : List UInt8) (w : World) : Calls Tryd.prog 13 #[.pointer none, Str x] w fun e w' => e = .returned (.tuple #[.string ⟨#[]⟩, .int .i64 7]) ∧ w = w' := by
  go_enter Tryd.func13, Tryd.ntmps13
  go_wp2_with fail
  refine (find_nil x w).mono ?_
  rintro e w1 ⟨rfl, rfl⟩
  go_wp2_with fail
  refine bodyPost_ret (v := .tuple #[.string ⟨#[]⟩, .int .i64 7]) ?_ rfl ⟨rfl, rfl⟩
  simp [results, Tryd.results13, go_sem]

theorem sync_nil (x : List UInt8) (w : World) : Calls Tryd.prog 11 #[.pointer none, Str x] w fun e w' => e = .returned (.int .i64 7) ∧ w = w' := by
  go_enter Tryd.func11, Tryd.ntmps11
  go_wp2_with fail
  refine (find_nil x w).mono ?_
  rintro e w1 ⟨rfl, rfl⟩
  go_wp2_with fail
  exact bodyPost_ret (results_tmp rfl _ _ _) rfl ⟨rfl, rfl⟩

theorem remove_nil (x : List UInt8) (w : World) : Calls Tryd.prog 22 #[.pointer none, Str x] w fun e w' => e = .returned (.int .i64 7) ∧ w = w' := by
  go_enter Tryd.func22, Tryd.ntmps22
  go_wp2_with fail
  refine (find_nil x w).mono ?_
  rintro e w1 ⟨rfl, rfl⟩
  go_wp2_with fail
  exact bodyPost_ret (results_tmp rfl _ _ _) rfl ⟨rfl, rfl⟩

theorem cut_nil (x : List UInt8) (k : Int) (w : World) : Calls Tryd.prog 21 #[.pointer none, Str x, .int .i64 k] w fun e w' => e = .returned (.int .i64 7) ∧ w = w' := by
  go_enter Tryd.func21, Tryd.ntmps21
  go_wp2_with fail
  refine (find_nil x w).mono ?_
  rintro e w1 ⟨rfl, rfl⟩
  go_wp2_with fail
  exact bodyPost_ret (results_tmp rfl _ _ _) rfl ⟨rfl, rfl⟩

theorem read_any (x : List UInt8) (w : World) (S : List Nat) (d : Nat) (s : St) (h : Dk w S d s) (hB : StB s) (hx : x.length ≤ 1099511627776) : Calls Tryd.prog 13 #[.pointer (some ⟨d, 0, none⟩), Str x] w fun e w' => e = .returned (.tuple #[Str (readS s x).1, .int .i64 (readS s x).2]) ∧ Step [] [] w w' := by
  obtain ⟨m, L, h1, h2⟩ := h
  have hfi := find_any x w S d m L s.room s.fuse s.off h1 hx
  have HF := Lib.hid hfi
  have HB := Lib.hid (And.intro h1 h2)
  clear hfi h1 h2
  go_enter Tryd.func13, Tryd.ntmps13
  go_wp2_with fail
  refine HF.out.mono ?_
  rintro e w1 ⟨rfl, rfl⟩
  cases ho : s.off with
  | true =>
    rw [show findV true (fget L x) = .tuple #[.pointer none, .int .i64 7] from rfl]
    have HO := Lib.hid ho
    clear ho
    go_wp2_with fail
    refine bodyPost_ret (v := .tuple #[.string ⟨#[]⟩, .int .i64 7]) ?_ rfl ⟨by simp [readS, HO.out], Step.refl _ _⟩
    simp [results, Tryd.results13, go_sem]
  | false =>
    have HO := Lib.hid ho
    clear ho
    cases hg : fget L x with
    | none =>
      rw [show findV false none = .tuple #[.pointer none, .int .i64 8] from rfl]
      have HG := Lib.hid (show eget s.E x = none by rw [← HB.out.2, fget_en, hg]; rfl)
      clear hg
      go_wp2_with fail
      refine bodyPost_ret (v := .tuple #[.string ⟨#[]⟩, .int .i64 8]) ?_ rfl ⟨by simp [readS, HO.out, HG.out], Step.refl _ _⟩
      simp [results, Tryd.results13, go_sem]
    | some f =>
      rw [show findV false (some f) = .tuple #[.pointer (some ⟨f.b, 0, none⟩), .int .i64 0] from rfl]
      have HG := Lib.hid (show eget s.E x = some f.en by rw [← HB.out.2, fget_en, hg]; rfl)
      obtain ⟨hfn, A, B, hL, hA⟩ := fget_some hg
      have HL := Lib.hid (And.intro hfn hL)
      clear hg hfn hL hA
      go_wp2_with fail
      have hfm : f ∈ L := by rw [HL.out.2]; simp
      have hfu := en_used HB.out.2 hB hfm
      refine (all_any w f.b f.d f.l (HB.out.1.fil f hfm) (by omega)).mono ?_
      rintro e w2 ⟨rfl, hw2⟩
      have HW := Lib.hid hw2
      clear hw2
      go_wp2_with fail
      refine bodyPost_ret (v := .tuple #[Str (f.d ++ f.l), .int .i64 0]) ?_ rfl ⟨by simp [readS, HO.out, HG.out, Fil.en], HW.out⟩
      simp [results, Tryd.results13, go_sem]

theorem sync_any (x : List UInt8) (w : World) (S : List Nat) (d : Nat) (s : St) (h : Dk w S d s) (hB : StB s) (hx : x.length ≤ 1099511627776) : Calls Tryd.prog 11 #[.pointer (some ⟨d, 0, none⟩), Str x] w (DkP (syncS s x) S d w) := by
  obtain ⟨m, L, h1, h2⟩ := h
  have hfi := find_any x w S d m L s.room s.fuse s.off h1 hx
  have HF := Lib.hid hfi
  have HB := Lib.hid (And.intro h1 h2)
  clear hfi h1 h2
  go_enter Tryd.func11, Tryd.ntmps11
  go_wp2_with fail
  refine HF.out.mono ?_
  rintro e w1 ⟨rfl, rfl⟩
  cases ho : s.off with
  | true =>
    rw [show findV true (fget L x) = .tuple #[.pointer none, .int .i64 7] from rfl]
    have HO := Lib.hid ho
    clear ho
    go_wp2_with fail
    refine bodyPost_ret (results_tmp rfl _ _ _) rfl ?_
    simp only [DkP, syncS, onFile, HO.out, Bool.false_eq_true, if_false, if_true]
    exact ⟨rfl, S, ⟨m, L, HB.out.1, HB.out.2⟩, Step.refl _ _⟩
  | false =>
    have HO := Lib.hid ho
    clear ho
    cases hg : fget L x with
    | none =>
      rw [show findV false none = .tuple #[.pointer none, .int .i64 8] from rfl]
      have HG := Lib.hid (show eget s.E x = none by rw [← HB.out.2, fget_en, hg]; rfl)
      clear hg
      go_wp2_with fail
      refine bodyPost_ret (results_tmp rfl _ _ _) rfl ?_
      simp only [DkP, syncS, onFile, HO.out, HG.out, Bool.false_eq_true, if_false, if_true]
      exact ⟨rfl, S, ⟨m, L, HB.out.1, HB.out.2⟩, Step.refl _ _⟩
    | some f =>
      rw [show findV false (some f) = .tuple #[.pointer (some ⟨f.b, 0, none⟩), .int .i64 0] from rfl]
      have HG := Lib.hid (show eget s.E x = some f.en by rw [← HB.out.2, fget_en, hg]; rfl)
      obtain ⟨hfn, A, B, hL, hA⟩ := fget_some hg
      have HL := Lib.hid (And.intro hfn hL)
      clear hg hfn hL hA
      go_wp2_with fail
      have hfm : f ∈ L := by rw [HL.out.2]; simp
      have hfu := Lib.hid (en_used HB.out.2 hB hfm)
      refine (burns_any w d m s.room s.fuse s.off HB.out.1.blk hB.fuse.2).mono ?_
      rintro e w2 ⟨rfl, hb2, hs2⟩
      have h2 := HB.out.1.head hs2 hb2
      have hw2 : Step S S w w2 := hs2.wide (by intro k hk; simp only [List.mem_singleton] at hk; rw [hk, HB.out.1.hS]; simp) (by intro k hk; exact .inl hk)
      have H2 := Lib.hid (And.intro h2 hw2)
      clear h2 hw2 hb2 hs2
      cases hbo : burnO s.fuse s.off with
      | true =>
        have HQ := Lib.hid (show s.burn.off = true from hbo)
        rw [hbo] at H2
        clear hbo
        go_wp2_with fail
        refine bodyPost_ret (results_tmp rfl _ _ _) rfl ?_
        simp only [DkP, syncS, onFile, HO.out, HG.out, HQ.out, Bool.false_eq_true, if_false, if_true]
        exact ⟨rfl, S, ⟨m, L, by rw [HQ.out]; exact H2.out.1, HB.out.2⟩, H2.out.2⟩
      | false =>
        have HQ := Lib.hid (show s.burn.off = false from hbo)
        rw [hbo] at H2
        clear hbo
        have hfb := H2.out.1.fil f hfm
        have c0 := hfb.cell 0
        have c1 := hfb.cell 1
        simp only [List.getElem?_toArray, List.getElem?_cons_zero, List.getElem?_cons_succ] at c0 c1
        have f0 := hfb.frozen 0
        have f1 := hfb.frozen 1
        have fl := hfb.lt
        have HFB := Lib.hid hfb
        clear hfb
        go_wp2_with fail
        refine (all_any w2 f.b f.d f.l HFB.out (by have := hfu.out; omega)).mono ?_
        rintro e w3 ⟨rfl, hw3⟩
        have g0 := hw3.cell c0 (by simp)
        have g1 := hw3.cell c1 (by simp)
        have hb3 := HFB.out.step hw3 (by simp)
        have hf0 := hb3.frozen 0
        have hf1 := hb3.frozen 1
        have hl3 := hb3.lt
        have H3 := Lib.hid (And.intro hw3 hb3)
        clear hw3 hb3 c0 c1 f0 f1 fl
        go_wp2_with fail
        have hkk : Step [f.b] [f.b] w2 ((w3.setCell ⟨f.b, 0, none⟩ (Str (f.d ++ f.l))).setCell ⟨f.b, 1, none⟩ (.string ⟨#[]⟩)) := ((H3.out.1.keep [f.b]).setCell (p := ⟨f.b, 0, none⟩) (.inl (by simp)) _).setCell (p := ⟨f.b, 1, none⟩) (.inl (by simp)) _
        have hbb := (H3.out.2.set 0 (Str (f.d ++ f.l))).set 1 (.string ⟨#[]⟩)
        obtain ⟨hfn, hL⟩ := HL.out
        have hLA : Dkm w2 S d m (A ++ f :: B) s.room (burnF s.fuse) false := by rw [← hL]; exact H2.out.1
        have hfin := hLA.file (f := f) (g := ⟨f.n, f.b, f.d ++ f.l, []⟩) hkk rfl rfl (by simpa using hbb)
        refine bodyPost_ret (results_tmp rfl _ _ _) rfl ?_
        simp only [DkP, syncS, onFile, HO.out, HG.out, HQ.out, Bool.false_eq_true, if_false]
        refine ⟨rfl, S, ⟨m, A ++ ⟨f.n, f.b, f.d ++ f.l, []⟩ :: B, by simp only [HQ.out]; exact hfin, ?_⟩, H2.out.2.trans (Step.wide (hkk) (by intro k hk; simp only [List.mem_singleton] at hk; rw [hk]; exact HB.out.1.memS hfm) (by intro k hk; exact .inl hk))⟩
        rw [← HB.out.2, hL, ← hfn]
        simp only [List.map_append, List.map_cons]
        exact (emod_mid (f := f.en) (by have := ris_en.2 H2.out.1.ris; rw [hL] at this; simpa using this) fun f => ⟨f.n, f.d ++ f.l, []⟩).symm

theorem remove_any (x : List UInt8) (w : World) (S : List Nat) (d : Nat) (s : St) (h : Dk w S d s) (hB : StB s) (hx : x.length ≤ 1099511627776) : Calls Tryd.prog 22 #[.pointer (some ⟨d, 0, none⟩), Str x] w (DkP (removeS s x) S d w) := by
  obtain ⟨m, L, h1, h2⟩ := h
  have hfi := find_any x w S d m L s.room s.fuse s.off h1 hx
  have HF := Lib.hid hfi
  have HB := Lib.hid (And.intro h1 h2)
  clear hfi h1 h2
  go_enter Tryd.func22, Tryd.ntmps22
  go_wp2_with fail
  refine HF.out.mono ?_
  rintro e w1 ⟨rfl, rfl⟩
  cases ho : s.off with
  | true =>
    rw [show findV true (fget L x) = .tuple #[.pointer none, .int .i64 7] from rfl]
    have HO := Lib.hid ho
    clear ho
    go_wp2_with fail
    refine bodyPost_ret (results_tmp rfl _ _ _) rfl ?_
    simp only [DkP, removeS, onFile, HO.out, Bool.false_eq_true, if_false, if_true]
    exact ⟨rfl, S, ⟨m, L, HB.out.1, HB.out.2⟩, Step.refl _ _⟩
  | false =>
    have HO := Lib.hid ho
    clear ho
    cases hg : fget L x with
    | none =>
      rw [show findV false none = .tuple #[.pointer none, .int .i64 8] from rfl]
      have HG := Lib.hid (show eget s.E x = none by rw [← HB.out.2, fget_en, hg]; rfl)
      clear hg
      go_wp2_with fail
      refine bodyPost_ret (results_tmp rfl _ _ _) rfl ?_
      simp only [DkP, removeS, onFile, HO.out, HG.out, Bool.false_eq_true, if_false, if_true]
      exact ⟨rfl, S, ⟨m, L, HB.out.1, HB.out.2⟩, Step.refl _ _⟩
    | some f =>
      rw [show findV false (some f) = .tuple #[.pointer (some ⟨f.b, 0, none⟩), .int .i64 0] from rfl]
      have HG := Lib.hid (show eget s.E x = some f.en by rw [← HB.out.2, fget_en, hg]; rfl)
      obtain ⟨hfn, A, B, hL, hA⟩ := fget_some hg
      have HL := Lib.hid (And.intro hfn hL)
      clear hg hfn hL hA
      go_wp2_with fail
      have hfm : f ∈ L := by rw [HL.out.2]; simp
      have hfu := Lib.hid (en_used HB.out.2 hB hfm)
      refine (burns_any w d m s.room s.fuse s.off HB.out.1.blk hB.fuse.2).mono ?_
      rintro e w2 ⟨rfl, hb2, hs2⟩
      have h2 := HB.out.1.head hs2 hb2
      have hw2 : Step S S w w2 := hs2.wide (by intro k hk; simp only [List.mem_singleton] at hk; rw [hk, HB.out.1.hS]; simp) (by intro k hk; exact .inl hk)
      have H2 := Lib.hid (And.intro h2 hw2)
      clear h2 hw2 hb2 hs2
      cases hbo : burnO s.fuse s.off with
      | true =>
        have HQ := Lib.hid (show s.burn.off = true from hbo)
        rw [hbo] at H2
        clear hbo
        go_wp2_with fail
        refine bodyPost_ret (results_tmp rfl _ _ _) rfl ?_
        simp only [DkP, removeS, onFile, HO.out, HG.out, HQ.out, Bool.false_eq_true, if_false, if_true]
        exact ⟨rfl, S, ⟨m, L, by rw [HQ.out]; exact H2.out.1, HB.out.2⟩, H2.out.2⟩
      | false =>
        have HQ := Lib.hid (show s.burn.off = false from hbo)
        rw [hbo] at H2
        clear hbo
        have c0 := H2.out.1.blk.cell 0
        simp only [List.getElem?_toArray, List.getElem?_cons_zero, List.getElem?_cons_succ] at c0
        obtain ⟨hfn, hL⟩ := HL.out
        have hLA : Dkm w2 S d m (A ++ f :: B) s.room (burnF s.fuse) false := by rw [← hL]; exact H2.out.1
        have HLA := Lib.hid hLA
        have HN := Lib.hid (And.intro hfn hL)
        clear hLA hfn hL
        go_wp2_with (at_delete; refine wpList_delete_own _ rfl _ _ 56 9 rfl 60 (string_keyed Tryd.underlying9) Tryd.underlying56 ptrElem m (A ++ f :: B).length (dat (A ++ f :: B)) rfl HLA.out.own _ _ rfl (WideMaps.keyOf_string_mk Tryd.underlying9 (s := ⟨x.toArray⟩) (by unfold maxLen; simp [ByteArray.size]; omega)) ?_; intro w3 hown3 hturn3)
        refine bodyPost_ret (results_tmp rfl _ _ _) rfl ?_
        have hk3 := turned_step hturn3
        have hown4 : w3.ownsMap Tryd.prog 9 ptrElem m (A ++ f :: B).length ((dat (A ++ f :: B)).del (.string f.n)) := by rw [HN.out.1]; exact hown3
        have hfin := HLA.out.drop hown4 hk3
        simp only [DkP, removeS, onFile, HO.out, HG.out, HQ.out, Bool.false_eq_true, if_false]
        refine ⟨rfl, _, ⟨m, A ++ B, by simp only [HQ.out]; exact hfin, ?_⟩, H2.out.2.trans (Step.wide hk3 (by intro k hk; simp only [List.mem_singleton] at hk; rw [hk, HB.out.1.hS]; simp) ?_)⟩
        · rw [← HB.out.2, HN.out.2, ← HN.out.1]
          simp only [List.map_append, List.map_cons]
          exact (edel_mid (f := f.en) (by have := ris_en.2 H2.out.1.ris; rw [HN.out.2] at this; simpa using this)).symm
        · intro k hk
          rw [HLA.out.hS]
          simp only [List.map_append, List.map_cons, List.mem_cons, List.mem_append] at hk ⊢
          rcases hk with h | h | h | h <;> simp [h]
theorem cut_neg (x : List UInt8) (k : Int) (hk : k < 0) (w : World) (S : List Nat) (d : Nat) (s : St) (h : Dk w S d s) (hB : StB s) (hx : x.length ≤ 1099511627776) : Calls Tryd.prog 21 #[.pointer (some ⟨d, 0, none⟩), Str x, .int .i64 k] w (DkP (cutS s x k) S d w) := by
  have hkd : decide (k < 0) = true := decide_eq_true hk
  have HKN := Lib.hid hk
  clear hk
  obtain ⟨m, L, h1, h2⟩ := h
  have hfi := find_any x w S d m L s.room s.fuse s.off h1 hx
  have HF := Lib.hid hfi
  have HB := Lib.hid (And.intro h1 h2)
  clear hfi h1 h2
  go_enter Tryd.func21, Tryd.ntmps21
  go_wp2_with fail
  refine HF.out.mono ?_
  rintro e w1 ⟨rfl, rfl⟩
  cases ho : s.off with
  | true =>
    rw [show findV true (fget L x) = .tuple #[.pointer none, .int .i64 7] from rfl]
    have HO := Lib.hid ho
    clear ho
    go_wp2_with fail
    refine bodyPost_ret (results_tmp rfl _ _ _) rfl ?_
    simp only [DkP, cutS, HO.out, Bool.false_eq_true, if_false, if_true]
    exact ⟨rfl, S, ⟨m, L, HB.out.1, HB.out.2⟩, Step.refl _ _⟩
  | false =>
    have HO := Lib.hid ho
    clear ho
    cases hg : fget L x with
    | none =>
      rw [show findV false none = .tuple #[.pointer none, .int .i64 8] from rfl]
      have HG := Lib.hid (show eget s.E x = none by rw [← HB.out.2, fget_en, hg]; rfl)
      clear hg
      go_wp2_with fail
      refine bodyPost_ret (results_tmp rfl _ _ _) rfl ?_
      simp only [DkP, cutS, HO.out, HG.out, Bool.false_eq_true, if_false, if_true]
      exact ⟨rfl, S, ⟨m, L, HB.out.1, HB.out.2⟩, Step.refl _ _⟩
    | some f =>
      rw [show findV false (some f) = .tuple #[.pointer (some ⟨f.b, 0, none⟩), .int .i64 0] from rfl]
      have HG := Lib.hid (show eget s.E x = some f.en by rw [← HB.out.2, fget_en, hg]; rfl)
      obtain ⟨hfn, A, B, hL, hA⟩ := fget_some hg
      have HL := Lib.hid (And.intro hfn hL)
      clear hg hfn hL hA
      go_wp2_with fail
      refine bodyPost_ret (results_tmp rfl _ _ _) rfl ?_
      simp only [DkP, cutS, HO.out, HG.out, HKN.out, true_or, Bool.false_eq_true, if_false, if_true]
      exact ⟨rfl, S, ⟨m, L, HB.out.1, HB.out.2⟩, Step.refl _ _⟩
theorem cut_nat (x : List UInt8) (j : Nat) (w : World) (S : List Nat) (d : Nat) (s : St) (h : Dk w S d s) (hB : StB s) (hx : x.length ≤ 1099511627776) : Calls Tryd.prog 21 #[.pointer (some ⟨d, 0, none⟩), Str x, .int .i64 (j : Int)] w (DkP (cutS s x (j : Int)) S d w) := by
  have hkd : decide ((j : Int) < 0) = false := decide_eq_false (by omega)
  obtain ⟨m, L, h1, h2⟩ := h
  have hfi := find_any x w S d m L s.room s.fuse s.off h1 hx
  have HF := Lib.hid hfi
  have HB := Lib.hid (And.intro h1 h2)
  clear hfi h1 h2
  go_enter Tryd.func21, Tryd.ntmps21
  go_wp2_with fail
  refine HF.out.mono ?_
  rintro e w1 ⟨rfl, rfl⟩
  cases ho : s.off with
  | true =>
    rw [show findV true (fget L x) = .tuple #[.pointer none, .int .i64 7] from rfl]
    have HO := Lib.hid ho
    clear ho
    go_wp2_with fail
    refine bodyPost_ret (results_tmp rfl _ _ _) rfl ?_
    simp only [DkP, cutS, HO.out, Bool.false_eq_true, if_false, if_true]
    exact ⟨rfl, S, ⟨m, L, HB.out.1, HB.out.2⟩, Step.refl _ _⟩
  | false =>
    have HO := Lib.hid ho
    clear ho
    cases hg : fget L x with
    | none =>
      rw [show findV false none = .tuple #[.pointer none, .int .i64 8] from rfl]
      have HG := Lib.hid (show eget s.E x = none by rw [← HB.out.2, fget_en, hg]; rfl)
      clear hg
      go_wp2_with fail
      refine bodyPost_ret (results_tmp rfl _ _ _) rfl ?_
      simp only [DkP, cutS, HO.out, HG.out, Bool.false_eq_true, if_false, if_true]
      exact ⟨rfl, S, ⟨m, L, HB.out.1, HB.out.2⟩, Step.refl _ _⟩
    | some f =>
      rw [show findV false (some f) = .tuple #[.pointer (some ⟨f.b, 0, none⟩), .int .i64 0] from rfl]
      have HG := Lib.hid (show eget s.E x = some f.en by rw [← HB.out.2, fget_en, hg]; rfl)
      obtain ⟨hfn, A, B, hL, hA⟩ := fget_some hg
      have HL := Lib.hid (And.intro hfn hL)
      clear hg hfn hL hA
      go_wp2_with fail
      have hfm : f ∈ L := by rw [HL.out.2]; simp
      have HU := Lib.hid (en_used HB.out.2 hB hfm)
      refine (all_any w f.b f.d f.l (HB.out.1.fil f hfm) (by have := HU.out; omega)).mono ?_
      rintro e w4 ⟨rfl, hw4⟩
      have hB4 : Dkm w4 S d m L s.room s.fuse s.off := HB.out.1.step hw4 (by simp)
      have H4 := Lib.hid (And.intro hB4 hw4)
      clear hB4 hw4
      have hll : (f.d ++ f.l).length = f.d.length + f.l.length := List.length_append
      by_cases hbig : (f.d.length + f.l.length : Nat) < j
      · have hbd : decide (((f.d.length + f.l.length : Nat) : Int) < (j : Int)) = true := decide_eq_true (by omega)
        have hbd2 : decide ((f.d.length : Int) + (f.l.length : Int) < (j : Int)) = true := decide_eq_true (by omega)
        have HC : Hid (((j : Int) < 0 ∨ ((f.en.d.length + f.en.l.length : Nat) : Int) < (j : Int))) := Lib.hid (.inr (by simp only [Fil.en]; omega))
        clear hbig
        go_wp2_with fail
        refine bodyPost_ret (results_tmp rfl _ _ _) rfl ?_
        simp only [DkP, cutS, HO.out, HG.out, Bool.false_eq_true, if_false]
        rw [if_pos HC.out]
        exact ⟨rfl, S, ⟨m, L, H4.out.1, HB.out.2⟩, (H4.out.2.keep S)⟩
      have hbd : decide (((f.d.length + f.l.length : Nat) : Int) < (j : Int)) = false := decide_eq_false (by omega)
      have hbd2 : decide ((f.d.length : Int) + (f.l.length : Int) < (j : Int)) = false := decide_eq_false (by omega)
      have HC : Hid (¬((j : Int) < 0 ∨ ((f.en.d.length + f.en.l.length : Nat) : Int) < (j : Int))) := Lib.hid (by simp only [Fil.en]; omega)
      have HSM := Lib.hid hbig
      clear hbig
      go_wp2_with fail
      refine (burns_any w4 d m s.room s.fuse s.off H4.out.1.blk hB.fuse.2).mono ?_
      rintro e w2 ⟨rfl, hb2, hs2⟩
      have h2 := H4.out.1.head hs2 hb2
      have hw2 : Step S S w w2 := (H4.out.2.keep S).trans <| hs2.wide (by intro k hk; simp only [List.mem_singleton] at hk; rw [hk, HB.out.1.hS]; simp) (by intro k hk; exact .inl hk)
      have H2 := Lib.hid (And.intro h2 hw2)
      clear h2 hw2 hb2 hs2
      cases hbo : burnO s.fuse s.off with
      | true =>
        have HQ := Lib.hid (show s.burn.off = true from hbo)
        rw [hbo] at H2
        clear hbo
        go_wp2_with fail
        refine bodyPost_ret (results_tmp rfl _ _ _) rfl ?_
        simp only [DkP, cutS, HO.out, HG.out, Bool.false_eq_true, if_false]
        rw [if_neg HC.out, if_pos HQ.out]
        exact ⟨rfl, S, ⟨m, L, by rw [HQ.out]; exact H2.out.1, HB.out.2⟩, H2.out.2⟩
      | false =>
        have HQ := Lib.hid (show s.burn.off = false from hbo)
        rw [hbo] at H2
        clear hbo
        have hfb := H2.out.1.fil f hfm
        have c0 := hfb.cell 0
        have c1 := hfb.cell 1
        simp only [List.getElem?_toArray, List.getElem?_cons_zero, List.getElem?_cons_succ] at c0 c1
        have f0 := hfb.frozen 0
        have f1 := hfb.frozen 1
        have fl := hfb.lt
        have HFB := Lib.hid hfb
        clear hfb
        by_cases hle : j ≤ f.d.length
        · have hld : decide ((j : Int) ≤ (f.d.length : Int)) = true := decide_eq_true (by omega)
          have hls : (j : Int) ≤ (f.d.length : Int) := by omega
          have HLE := Lib.hid hle
          clear hle
          go_wp2_with fail
          have hkk : Step [f.b] [f.b] w2 ((w2.setCell ⟨f.b, 0, none⟩ (Str (f.d.take j))).setCell ⟨f.b, 1, none⟩ (.string ⟨#[]⟩)) := ((Step.refl [f.b] w2).setCell (p := ⟨f.b, 0, none⟩) (.inl (by simp)) _).setCell (p := ⟨f.b, 1, none⟩) (.inl (by simp)) _
          have hbb := (HFB.out.set 0 (Str (f.d.take j))).set 1 (.string ⟨#[]⟩)
          obtain ⟨hfn, hL⟩ := HL.out
          have hLA : Dkm w2 S d m (A ++ f :: B) s.room (burnF s.fuse) false := by rw [← hL]; exact H2.out.1
          have hfin := hLA.file (f := f) (g := ⟨f.n, f.b, f.d.take j, []⟩) hkk rfl rfl (by simpa using hbb)
          refine bodyPost_ret (results_tmp rfl _ _ _) rfl ?_
          simp only [DkP, cutS, HO.out, HG.out, Bool.false_eq_true, if_false]
          rw [if_neg HC.out, if_neg (by rw [HQ.out]; simp)]
          refine ⟨rfl, S, ⟨m, A ++ ⟨f.n, f.b, f.d.take j, []⟩ :: B, by simp only [HQ.out]; exact hfin, ?_⟩, H2.out.2.trans (Step.wide (hkk) (by intro k hk; simp only [List.mem_singleton] at hk; rw [hk]; exact HB.out.1.memS hfm) (by intro k hk; exact .inl hk))⟩
          rw [← HB.out.2, hL, ← hfn]
          simp only [List.map_append, List.map_cons]
          rw [show (⟨f.n, f.b, f.d.take j, []⟩ : Fil).en = cutF ((j : Int)).toNat f.en from (show cutF ((j : Int)).toNat f.en = _ by simp [cutF, Fil.en, HLE.out]).symm]
          exact (emod_mid (f := f.en) (by have := ris_en.2 H2.out.1.ris; rw [hL] at this; simpa using this) (cutF ((j : Int)).toNat)).symm
        have hld : decide ((j : Int) ≤ (f.d.length : Int)) = false := decide_eq_false (by omega)
        have hls : (f.d.length : Int) < (j : Int) := by omega
        obtain ⟨i, hi⟩ : ∃ i, j = f.d.length + i := ⟨j - f.d.length, by omega⟩
        have hwr : IntKind.i64.wrap ((j : Int) - (f.d.length : Int)) = (i : Int) := by rw [IntWalk.i64_in _ (by have := HSM.out; have := HU.out; omega)]; omega
        have hil : i ≤ f.l.length := by have := HSM.out; omega
        have hil2 : (i : Int) ≤ (f.l.length : Int) := by omega
        have HLE := Lib.hid (And.intro hle hi)
        clear hle hi
        have HD := Lib.hid HFB.out.drew
        have d0 := HFB.out.drew.cell 0
        have d1 := HFB.out.drew.cell 1
        simp only [List.getElem?_toArray, List.getElem?_cons_zero, List.getElem?_cons_succ] at d0 d1
        have e0 := HFB.out.drew.frozen 0
        have e1 := HFB.out.drew.frozen 1
        go_wp2_with fail
        refine still_tail 13 (by kernel_rfl) (by kernel_rfl) ?_
        simp only [List.take_succ_cons, List.take_zero, List.drop_succ_cons, List.drop_zero]
        repeat still_step
        refine wpStill_nil ?_
        go_wp2_with fail
        have hkk : Step [f.b] [f.b] w2 (w2.setCell ⟨f.b, 1, none⟩ (Str (f.l.take i))).drew := ((Step.refl [f.b] w2).setCell (p := ⟨f.b, 1, none⟩) (.inl (by simp)) _).drew
        have hbb := (HFB.out.set 1 (Str (f.l.take i))).drew
        obtain ⟨hfn, hL⟩ := HL.out
        have hLA : Dkm w2 S d m (A ++ f :: B) s.room (burnF s.fuse) false := by rw [← hL]; exact H2.out.1
        have hfin := hLA.file (f := f) (g := ⟨f.n, f.b, f.d, f.l.take i⟩) hkk rfl rfl (by simpa using hbb)
        refine bodyPost_ret (results_tmp rfl _ _ _) rfl ?_
        simp only [DkP, cutS, HO.out, HG.out, Bool.false_eq_true, if_false]
        rw [if_neg HC.out, if_neg (by rw [HQ.out]; simp)]
        refine ⟨rfl, S, ⟨m, A ++ ⟨f.n, f.b, f.d, f.l.take i⟩ :: B, by simp only [HQ.out]; exact hfin, ?_⟩, H2.out.2.trans (Step.wide (hkk) (by intro k hk; simp only [List.mem_singleton] at hk; rw [hk]; exact HB.out.1.memS hfm) (by intro k hk; exact .inl hk))⟩
        rw [← HB.out.2, hL, ← hfn]
        simp only [List.map_append, List.map_cons]
        rw [show (⟨f.n, f.b, f.d, f.l.take i⟩ : Fil).en = cutF ((j : Int)).toNat f.en from (cut_gt f j i HLE.out.1 HLE.out.2).symm]
        exact (emod_mid (f := f.en) (by have := ris_en.2 H2.out.1.ris; rw [hL] at this; simpa using this) (cutF ((j : Int)).toNat)).symm

end Go.Proofs.YtfkjgkgflkhbnaaDoor
