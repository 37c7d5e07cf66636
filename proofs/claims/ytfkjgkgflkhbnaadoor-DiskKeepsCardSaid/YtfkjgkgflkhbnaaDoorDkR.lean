/-
  The reference's disk in memory: its struct, its list of files; New, Used, at, burns, Read. Conditions: the bounds of StB.
-/
import Derived.Test.YtfkjgkgflkhbnaaDoorDkC
import Derived.Test.YtfkjgkgflkhbnaaDoorPutL
namespace Go.Proofs.YtfkjgkgflkhbnaaDoor
open Go.RowKit Go.Maps
set_option linter.unusedSimpArgs false
set_option linter.unusedVariables false
set_option maxRecDepth 100000


def enV (f : En) : List Value := [Str f.n, Str f.d, Str f.l]
def enVs (E : List En) : List Value := E.flatMap enV
theorem enV_len (x : En) : (enV x).length = 3 := rfl
theorem enVs_len (E : List En) : (enVs E).length = E.length * 3 := by induction E with
  | nil => rfl
  | cons x r ih => simp only [enVs, List.flatMap_cons, List.length_append, List.length_cons] at ih ⊢; rw [ih]; simp [enV]; omega
theorem enVs_app (E F : List En) : enVs (E ++ F) = enVs E ++ enVs F := by simp [enVs]
theorem enVs_one (E : List En) : ∀ u ∈ enVs E, u.oneCell' = true := fl_one enV (fun x u hu => by simp [enV] at hu; rcases hu with rfl | rfl | rfl <;> rfl) E
theorem rd_en {w : World} {E : List En} {g off : Nat} {sp n} (h : Rd w 3 (some ⟨g, off, sp⟩) n (enVs E)) {k : Nat} {x : En} (hx : E[k]? = some x) :
    w.cell? ⟨g, off + k * 3, none⟩ = some (Str x.n) ∧ w.cell? ⟨g, off + k * 3 + 1, none⟩ = some (Str x.d) ∧ w.cell? ⟨g, off + k * 3 + 2, none⟩ = some (Str x.l) :=
  ⟨rd_fl enV 3 enV_len h hx 0 (by omega) _ rfl, rd_fl enV 3 enV_len h hx 1 (by omega) _ rfl, rd_fl enV 3 enV_len h hx 2 (by omega) _ rfl⟩
abbrev rdc (v : Value) (room fuse : Int) (off : Bool) : Array Value := #[v, .int .i64 room, .int .i64 fuse, .bool off]
/-- The reference's disk at block d; its list is the slice ⟨a, _, cap⟩. -/
structure Rfm (w : World) (S : List Nat) (d : Nat) (a : Option Addr) (cap : Nat) (s : St) : Prop where
  hS : S = d :: blks a
  blk : Blk w d 70 (rdc (.slice a s.E.length cap) s.room s.fuse s.off)
  row : Row w 3 a s.E.length cap (enVs s.E)
  ne : d ∉ blks a
def Rf (w : World) (S : List Nat) (d : Nat) (s : St) : Prop := ∃ a cap, Rfm w S d a cap s
section
variable {w w' : World} {S S' S'' : List Nat} {d cap : Nat} {a : Option Addr} {s : St}
theorem Rfm.step (h : Rfm w S d a cap s) (k : Step S' S'' w w') (hn : ∀ x ∈ S, x ∉ S') : Rfm w' S d a cap s := by
  have e := h.hS
  exact ⟨e, h.blk.step k (hn d (by simp [e])), h.row.step k (fun g hg => hn g (by simp [e, hg])), h.ne⟩
theorem Rf.step (h : Rf w S d s) (k : Step S' S'' w w') (hn : ∀ x ∈ S, x ∉ S') : Rf w' S d s := by
  obtain ⟨a, cap, h⟩ := h
  exact ⟨a, cap, h.step k hn⟩
theorem Rf.keep (h : Rf w S d s) (k : Step [] S'' w w') : Rf w' S d s := h.step k (by simp)
theorem Rfm.lt (h : Rfm w S d a cap s) : ∀ k ∈ S, k < w.heap.size := by
  intro k hk
  rw [h.hS] at hk
  rcases List.mem_cons.1 hk with rfl | hk
  · exact h.blk.lt
  · exact h.row.lt k hk
theorem Rf.lt (h : Rf w S d s) : ∀ k ∈ S, k < w.heap.size := by obtain ⟨a, cap, h⟩ := h; exact h.lt
theorem Rfm.memd (h : Rfm w S d a cap s) : d ∈ S := by rw [h.hS]; simp
/-- The struct's numbers have turned. -/
theorem Rfm.head (h : Rfm w S d a cap s) (k : Step [d] [d] w w') {s' : St} (he : s'.E = s.E) (hb : Blk w' d 70 (rdc (.slice a s.E.length cap) s'.room s'.fuse s'.off)) : Rfm w' S d a cap s' :=
  ⟨h.hS, by rw [he]; exact hb, by rw [he]; exact h.row.step k (by intro g hg hm; simp only [List.mem_singleton] at hm; exact h.ne (hm ▸ hg)), h.ne⟩
end
theorem drewN_add (w : World) (a b : Nat) : (w.drewN a).drewN b = w.drewN (a + b) := by unfold World.drewN; simp [Nat.add_assoc]

theorem rnew_any (room : Int) (w : World) : Calls Tryd.prog 17 #[.int .i64 room] w fun e w' => e = .returned (.tuple #[.pointer (some ⟨w.heap.size, 0, none⟩), .bool (okRoom room)]) ∧ Rf w' [w.heap.size] w.heap.size (newS room) ∧ Step [] [w.heap.size] w w' := by
  have hfin : Rf (w.alloc (.cells (rdc (.slice none 0 0) room (-1) false) 70)) [w.heap.size] w.heap.size (newS room) := ⟨none, 0, ⟨rfl, Blk.new w _ _, Row.none _ 3, by simp [blks]⟩⟩
  have HF := Lib.hid hfin
  have hst := Lib.hid ((Step.refl [] w).hold (.cells (rdc (.slice none 0 0) room (-1) false) 70))
  clear hfin
  by_cases h0 : 0 ≤ room
  · have hd0 : decide (0 ≤ room) = true := decide_eq_true h0
    have HK : Hid (okRoom room = decide (room ≤ 8388608)) := Lib.hid (by simp [okRoom, h0])
    go_enter Tryd.func17, Tryd.ntmps17
    go_wp2_with fail
    refine bodyPost_ret (v := .tuple #[.pointer (some ⟨w.heap.size, 0, none⟩), .bool (okRoom room)]) ?_ rfl ⟨rfl, HF.out, hst.out⟩
    rw [HK.out]
    simp [results, Tryd.results17, go_sem]
  · have hd0 : decide (0 ≤ room) = false := decide_eq_false h0
    have HK : Hid (okRoom room = false) := Lib.hid (by simp [okRoom]; omega)
    go_enter Tryd.func17, Tryd.ntmps17
    go_wp2_with fail
    refine bodyPost_ret (v := .tuple #[.pointer (some ⟨w.heap.size, 0, none⟩), .bool (okRoom room)]) ?_ rfl ⟨rfl, HF.out, hst.out⟩
    rw [HK.out]
    simp [results, Tryd.results17, go_sem]

theorem used_take {E : List En} {k : Nat} {x : En} (h : E[k]? = some x) : usedE (E.take (k + 1)) = usedE (E.take k) + (x.d.length + x.l.length) := by
  have hk := (List.getElem?_eq_some_iff.1 h).1
  have hx := (List.getElem?_eq_some_iff.1 h).2
  rw [List.take_succ_eq_append_getElem hk, hx, used_app, used_cons]
  simp [usedE]
theorem used_take_le (E : List En) (k : Nat) : usedE (E.take k) ≤ usedE E := by
  conv => rhs; rw [← List.take_append_drop k E]
  rw [used_app]; omega

set_option maxHeartbeats 1000000 in
theorem rused_any (w : World) (S : List Nat) (d : Nat) (s : St) (h : Rf w S d s) (hB : StB s) : Calls Tryd.prog 35 #[.pointer (some ⟨d, 0, none⟩)] w fun e w' => e = .returned (.int .i64 (usedE s.E : Nat)) ∧ ∃ n, w' = w.drewN n := by
  obtain ⟨a, cap, h⟩ := h
  have c0 := h.blk.cell 0
  simp only [List.getElem?_toArray, List.getElem?_cons_zero, List.getElem?_cons_succ] at c0
  have HB := Lib.hid (And.intro h hB)
  have hlen : s.E.length ≤ 1099511627776 := hB.len
  have hub : usedE s.E ≤ 8388608 := hB.used
  clear h hB
  obtain ⟨N, hN⟩ : ∃ N, N = s.E.length := ⟨_, rfl⟩
  rw [← hN] at c0 hlen
  have HN := Lib.hid hN
  clear hN
  go_enter Tryd.func35, Tryd.ntmps35
  go_wp2_with fail
  go_loopw [3, 4] (fun v i W => ∃ k q : Nat, i = .int .i64 k ∧ k ≤ N ∧ v = .int .i64 (usedE (s.E.take k) : Nat) ∧ Hid (W = w.drewN q)) (fun _ i _ => N - (intOf i).toNat)
  case atStart => exact ⟨0, 0, rfl, by omega, by simp [usedE], Lib.hid rfl⟩
  case round =>
    rename World => W
    obtain ⟨k, q, rfl, hkN, rfl, HW⟩ := hrel
    have c0' := cell_drewN HW.out c0
    by_cases hlt : k < N
    · have hlt' : (k : Int) < N := by omega
      obtain ⟨x, hx⟩ : ∃ x, s.E[k]? = some x := ⟨_, List.getElem?_eq_getElem (by rw [← HN.out]; exact hlt)⟩
      obtain ⟨g, off, hs1⟩ := (HB.out.1.row).some_of_pos (by rw [← HN.out]; omega)
      have hr := HB.out.1.row.rd
      rw [hs1] at hr
      obtain ⟨z0, z1, z2⟩ := rd_en hr hx
      replace z1 := cell_drewN HW.out z1
      replace z2 := cell_drewN HW.out z2
      have gl : g < W.heap.size := by have := World.block_lt_of_cell? _ _ z1; simpa using this
      have hsum := used_take hx
      have hle := used_take_le s.E (k + 1)
      rw [hsum] at hle
      obtain ⟨n, hn⟩ : ∃ n, n = usedE (s.E.take k) := ⟨_, rfl⟩
      rw [← hn] at hsum hle ⊢
      have HS := Lib.hid hsum
      have hb2 := Nat.le_trans hle hub
      subst hs1
      clear z0 hr hx hsum hn hle c0
      go_wp2_with fail
      go_quiet (fail)
      go_wp2_with fail
      go_roundw
      case rel => exact ⟨k + 1, q + nq, by go_num, by omega, by rw [HS.out]; go_num; try omega, Lib.hid (by rw [HW.out, drewN_add])⟩
      case measure => simp [intOf]; omega
    · have hnl : ¬ (k : Int) < N := by omega
      have hke : Hid (k = s.E.length) := Lib.hid (by rw [← HN.out]; omega)
      clear c0
      go_wp2_with fail
      exact bodyPost_ret (results_tmp rfl _ _ _) rfl ⟨by rw [hke.out, List.take_length] <;> rfl, q, HW.out⟩

/-- Where a file stands; -1: nowhere. -/
def atI (E : List En) (n : List UInt8) : Int := match E.findIdx? (fun f => f.n == n) with | some i => (i : Int) | none => -1
theorem atI_none {E : List En} {n : List UInt8} (h : ∀ f ∈ E, (f.n == n) = false) : atI E n = -1 := by
  unfold atI
  rw [List.findIdx?_eq_none_iff.2 h]
theorem atI_some {E : List En} {n : List UInt8} {k : Nat} {x : En} (hx : E[k]? = some x) (hq : x.n = n) (h : ∀ f ∈ E.take k, (f.n == n) = false) : atI E n = k := by
  have hk := (List.getElem?_eq_some_iff.1 hx).1
  have hg := (List.getElem?_eq_some_iff.1 hx).2
  unfold atI
  have : E.findIdx? (fun f => f.n == n) = some k := by
    rw [List.findIdx?_eq_some_iff_getElem]
    refine ⟨hk, by rw [hg]; simpa using hq, fun j hj => ?_⟩
    have := h (E[j]'(by omega)) (List.mem_of_getElem? (i := j) (by rw [List.getElem?_take, if_pos hj, List.getElem?_eq_getElem (by omega)]))
    simpa using this
  rw [this]
theorem take_no {E : List En} {n : List UInt8} {k : Nat} {x : En} (hx : E[k]? = some x) (hq : ¬ x.n = n) (h : ∀ f ∈ E.take k, (f.n == n) = false) : ∀ f ∈ E.take (k + 1), (f.n == n) = false := by
  have hk := (List.getElem?_eq_some_iff.1 hx).1
  have hg := (List.getElem?_eq_some_iff.1 hx).2
  intro f hf
  rw [List.take_succ_eq_append_getElem hk, hg] at hf
  rcases List.mem_append.1 hf with hf | hf
  · exact h f hf
  · simp at hf; subst hf; simpa using hq
/-- A file that is there, by its place. -/
theorem atI_split {E : List En} {n : List UInt8} {f : En} (h : eget E n = some f) : ∃ A B, E = A ++ f :: B ∧ f.n = n ∧ atI E n = A.length ∧ E[A.length]? = some f := by
  obtain ⟨h1, A, B, rfl, h2⟩ := List.find?_eq_some_iff_append.1 h
  have hn : f.n = n := by simpa using h1
  refine ⟨A, B, rfl, hn, atI_some (x := f) (by simp) hn (by simpa using h2), by simp⟩
theorem atI_miss {E : List En} {n : List UInt8} (h : eget E n = none) : atI E n = -1 := atI_none (by simpa [eget] using h)
def AtR (w : World) (E : List En) (n : List UInt8) (k : Nat) (W : World) : Prop := w = W ∧ ∀ f ∈ E.take k, (f.n == n) = false
set_option maxHeartbeats 1000000 in
theorem rat_any (n : List UInt8) (w : World) (S : List Nat) (d : Nat) (s : St) (h : Rf w S d s) (hB : StB s) : Calls Tryd.prog 42 #[.pointer (some ⟨d, 0, none⟩), Str n] w fun e w' => e = .returned (.int .i64 (atI s.E n)) ∧ w = w' := by
  obtain ⟨a, cap, h⟩ := h
  have c0 := h.blk.cell 0
  simp only [List.getElem?_toArray, List.getElem?_cons_zero, List.getElem?_cons_succ] at c0
  have HB := Lib.hid (And.intro h hB)
  have hlen : s.E.length ≤ 1099511627776 := hB.len
  clear h hB
  obtain ⟨N, hN⟩ : ∃ N, N = s.E.length := ⟨_, rfl⟩
  rw [← hN] at c0 hlen
  have HN := Lib.hid hN
  clear hN
  go_enter Tryd.func42, Tryd.ntmps42
  go_wp2_with fail
  go_loopw [5] (fun i W => ∃ k : Nat, i = .int .i64 k ∧ k ≤ N ∧ AtR w s.E n k W) (fun i _ => N - (intOf i).toNat)
  case atStart => exact ⟨0, rfl, by omega, rfl, by simp⟩
  case round =>
    rename World => W
    obtain ⟨k, rfl, hkN, HW⟩ := hrel
    obtain ⟨rfl, hno⟩ := HW
    have HNO := Lib.hid hno
    clear hno
    by_cases hlt : k < N
    · have hlt' : (k : Int) < N := by omega
      obtain ⟨x, hx⟩ : ∃ x, s.E[k]? = some x := ⟨_, List.getElem?_eq_getElem (by rw [← HN.out]; exact hlt)⟩
      obtain ⟨g, off, hs1⟩ := (HB.out.1.row).some_of_pos (by rw [← HN.out]; omega)
      have hr := HB.out.1.row.rd
      rw [hs1] at hr
      obtain ⟨z0, z1, z2⟩ := rd_en hr hx
      have gl : g < w.heap.size := by have := World.block_lt_of_cell? _ _ z1; simpa using this
      have HX := Lib.hid hx
      subst hs1
      clear z1 z2 hr hx
      by_cases hq : x.n = n
      · have HE : Hid (atI s.E n = (k : Int)) := Lib.hid (atI_some HX.out hq HNO.out)
        rw [hq] at z0
        clear hq
        go_wp2_with fail
        exact bodyPost_ret (results_tmp rfl _ _ _) rfl ⟨by rw [HE.out] <;> rfl, rfl⟩
      · have hqd : (x.n == n) = false := by simpa using hq
        have HQ := Lib.hid hq
        clear hq
        go_wp2_with fail
        go_roundw
        case rel => exact ⟨k + 1, by go_num, by omega, rfl, take_no HX.out HQ.out HNO.out⟩
        case measure => simp [intOf]; omega
    · have hnl : ¬ (k : Int) < N := by omega
      have HE : Hid (atI s.E n = -1) := Lib.hid (atI_none (by rw [show k = s.E.length by rw [← HN.out]; omega, List.take_length] at HNO; exact HNO.out))
      go_wp2_with fail
      exact bodyPost_ret (results_tmp rfl _ _ _) rfl ⟨by rw [HE.out] <;> rfl, rfl⟩

theorem rburns_any (w : World) (S : List Nat) (d cap : Nat) (a : Option Addr) (s : St) (h : Rfm w S d a cap s) (hf : s.fuse ≤ 9223372036854775807) : Calls Tryd.prog 41 #[.pointer (some ⟨d, 0, none⟩)] w fun e w' => e = .returned (.bool s.burn.off) ∧ Rfm w' S d a cap s.burn ∧ Step [d] [d] w w' := by
  have c2 := h.blk.cell 2
  have c3 := h.blk.cell 3
  simp only [List.getElem?_toArray, List.getElem?_cons_zero, List.getElem?_cons_succ] at c2 c3
  have f2 := h.blk.frozen 2
  have f3 := h.blk.frozen 3
  have fl := h.blk.lt
  have HB := Lib.hid h
  clear h
  obtain ⟨E, room, fuse, off⟩ := s
  simp only at c2 c3 hf
  go_enter Tryd.func41, Tryd.ntmps41
  by_cases h0 : fuse = 0
  · subst h0
    go_wp2_with fail
    refine bodyPost_ret (results_tmp rfl _ _ _) rfl ⟨by simp [St.burn], ?_, (Step.refl [d] w).setCell (p := ⟨d, 3, none⟩) (.inl (by simp)) _⟩
    refine HB.out.head ((Step.refl [d] w).setCell (p := ⟨d, 3, none⟩) (.inl (by simp)) _) rfl ?_
    simpa [St.burn] using HB.out.blk.set 3 (.bool true)
  · have hd : (fuse == 0) = false := by simpa using h0
    by_cases h1 : 0 < fuse
    · have h1d : decide (0 < fuse) = true := decide_eq_true h1
      go_wp2_with fail
      refine bodyPost_ret (results_tmp rfl _ _ _) rfl ⟨by simp [St.burn, h0], ?_, (Step.refl [d] w).setCell (p := ⟨d, 2, none⟩) (.inl (by simp)) _⟩
      refine HB.out.head ((Step.refl [d] w).setCell (p := ⟨d, 2, none⟩) (.inl (by simp)) _) rfl ?_
      simpa [St.burn, h0, h1] using HB.out.blk.set 2 (.int .i64 (fuse - 1))
    · have h1d : decide (0 < fuse) = false := decide_eq_false h1
      go_wp2_with fail
      refine bodyPost_ret (results_tmp rfl _ _ _) rfl ⟨by simp [St.burn, h0], ?_, Step.refl _ _⟩
      have e : St.burn ⟨E, room, fuse, off⟩ = ⟨E, room, fuse, off⟩ := by simp only [St.burn]; rw [if_neg (by omega)]; simp [h0]
      rw [e]
      exact HB.out

set_option maxHeartbeats 1000000 in
theorem rread_any (x : List UInt8) (w : World) (S : List Nat) (d : Nat) (s : St) (h : Rf w S d s) (hB : StB s) : Calls Tryd.prog 33 #[.pointer (some ⟨d, 0, none⟩), Str x] w fun e w' => e = .returned (.tuple #[Str (readS s x).1, .int .i64 (readS s x).2]) ∧ ∃ n, w' = w.drewN n := by
  obtain ⟨a, cap, h⟩ := h
  have c3 := h.blk.cell 3
  simp only [List.getElem?_toArray, List.getElem?_cons_zero, List.getElem?_cons_succ] at c3
  have hat := rat_any x w S d s ⟨a, cap, h⟩ hB
  have HF := Lib.hid hat
  have HB := Lib.hid (And.intro h hB)
  clear hat h hB
  go_enter Tryd.func33, Tryd.ntmps33
  go_wp2_with fail
  refine HF.out.mono ?_
  rintro e w1 ⟨rfl, rfl⟩
  cases ho : s.off with
  | true =>
    have HO := Lib.hid ho
    rw [ho] at c3
    clear ho
    go_wp2_with fail
    refine bodyPost_ret (v := .tuple #[.string ⟨#[]⟩, .int .i64 7]) ?_ rfl ⟨by simp [readS, HO.out], 0, rfl⟩
    simp [results, Tryd.results33, go_sem]
  | false =>
    have HO := Lib.hid ho
    rw [ho] at c3
    clear ho
    cases hg : eget s.E x with
    | none =>
      rw [atI_miss hg]
      have HG := Lib.hid hg
      clear hg
      go_wp2_with fail
      refine bodyPost_ret (v := .tuple #[.string ⟨#[]⟩, .int .i64 8]) ?_ rfl ⟨by simp [readS, HO.out, HG.out], 0, rfl⟩
      simp [results, Tryd.results33, go_sem]
    | some f =>
      obtain ⟨A, B, hE, hfn, hai, hel⟩ := atI_split hg
      rw [hai]
      have HG := Lib.hid (And.intro hg (And.intro hE (And.intro hfn hel)))
      have hAl : A.length < 1099511627776 := by
        have h1 := HB.out.2.len
        rw [hE] at h1
        simp at h1
        omega
      have hneg : decide ((A.length : Int) < 0) = false := decide_eq_false (by omega)
      clear hg hE hfn hai hel
      have c0 := HB.out.1.blk.cell 0
      simp only [List.getElem?_toArray, List.getElem?_cons_zero, List.getElem?_cons_succ] at c0
      have hAE : A.length < s.E.length := by rw [HG.out.2.1]; simp
      have hAi : (A.length : Int) < (s.E.length : Int) := by omega
      obtain ⟨g, off, hs1⟩ := (HB.out.1.row).some_of_pos (by omega)
      have hr := HB.out.1.row.rd
      rw [hs1] at hr
      obtain ⟨z0, z1, z2⟩ := rd_en hr HG.out.2.2.2
      have gl : g < w.heap.size := by have := World.block_lt_of_cell? _ _ z1; simpa using this
      have hful : f.d.length + f.l.length ≤ 8388608 := by
        have := used_mem (E := s.E) (f := f) (by rw [HG.out.2.1]; simp)
        have := HB.out.2.used
        omega
      have hcat : f.d.length + f.l.length ≤ 9223372036854775807 := by omega
      have HHF := Lib.hid hful
      rw [hs1] at c0
      clear z0 hr hs1 hful
      go_wp2_with fail
      go_quiet (fail)
      go_wp2_with fail
      refine bodyPost_ret (v := .tuple #[Str (f.d ++ f.l), .int .i64 0]) ?_ rfl ⟨by simp [readS, HO.out, HG.out.1], nq, rfl⟩
      simp [results, Tryd.results33, go_sem]

end Go.Proofs.YtfkjgkgflkhbnaaDoor
