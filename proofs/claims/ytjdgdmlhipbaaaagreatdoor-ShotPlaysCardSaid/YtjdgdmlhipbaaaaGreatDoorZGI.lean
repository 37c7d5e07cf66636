/-
 The reference's disk in memory: its struct, its list of files; New, Used, at, burns, Read. Conditions: the bounds of StB.
-/
import Derived.Test.YtjdgdmlhipbaaaaGreatDoorZGA
import Derived.Test.YtjdgdmlhipbaaaaGreatDoorZGM
import Derived.Test.YtjdgdmlhipbaaaaGreatDoorZGK
import Derived.Test.YtjdgdmlhipbaaaaGreatDoorZGO
namespace Go.Proofs.YtjdgdmlhipbaaaaGreatDoor
open Go.RowKit Go.Maps
set_option linter.unusedSimpArgs false
set_option linter.unusedVariables false
set_option maxRecDepth 100000


def enV (f : En) : List Value := [Str f.n, Str f.d, Str f.l]
def enVs (E : List En) : List Value := E.flatMap enV
theorem enV_len (x : En) : (enV x).length = 3 := rfl
theorem enVs_len (E : List En) : (enVs E).length = E.length * 3 := by induction E with
 | nil => rfl
 | cons x r ih => simp only [enVs, List.flatMap_cons, List.length_append, List.length_cons] at ih ⊢; rw [ih]; simp [enV]; omega
theorem enVs_app (E F : List En) : enVs (E ++ F) = enVs E ++ enVs F := by simp [enVs]
theorem enVs_one (E : List En) : ∀ u ∈ enVs E, u.oneCell' = true := fl_one enV (fun x u hu => by simp [enV] at hu; rcases hu with rfl | rfl | rfl <;> rfl) E
theorem rd_en {w : World} {E : List En} {g off : Nat} {sp n} (h : Rd w 3 (some ⟨g, off, sp⟩) n (enVs E)) {k : Nat} {x : En} (hx : E[k]? = some x) :
  w.cell? ⟨g, off + k * 3, none⟩ = some (Str x.n) ∧ w.cell? ⟨g, off + k * 3 + 1, none⟩ = some (Str x.d) ∧ w.cell? ⟨g, off + k * 3 + 2, none⟩ = some (Str x.l) :=
 ⟨rd_fl enV 3 enV_len h hx 0 (by omega) _ rfl, rd_fl enV 3 enV_len h hx 1 (by omega) _ rfl, rd_fl enV 3 enV_len h hx 2 (by omega) _ rfl⟩
abbrev rdc (v : Value) (room fuse : Int) (off : Bool) : Array Value := #[v, .int .i64 room, .int .i64 fuse, .bool off]
/-- The reference's disk at block d; its list is the slice ⟨a, _, cap⟩. -/
structure Rfm (w : World) (S : List Nat) (d : Nat) (a : Option Addr) (cap : Nat) (s : St) : Prop where
 hS : S = d :: blks a
 blk : Blk w d 45 (rdc (.slice a s.E.length cap) s.room s.fuse s.off)
 row : Row w 3 a s.E.length cap (enVs s.E)
 ne : d ∉ blks a
def Rf (w : World) (S : List Nat) (d : Nat) (s : St) : Prop := ∃ a cap, Rfm w S d a cap s
section
variable {w w' : World} {S S' S'' : List Nat} {d cap : Nat} {a : Option Addr} {s : St}
theorem Rfm.step (h : Rfm w S d a cap s) (k : Step S' S'' w w') (hn : ∀ x ∈ S, x ∉ S') : Rfm w' S d a cap s := by
 have e := h.hS
 exact ⟨e, h.blk.step k (hn d (by simp [e])), h.row.step k (fun g hg => hn g (by simp [e, hg])), h.ne⟩
theorem Rf.step (h : Rf w S d s) (k : Step S' S'' w w') (hn : ∀ x ∈ S, x ∉ S') : Rf w' S d s := by
 obtain ⟨a, cap, h⟩ := h
 exact ⟨a, cap, h.step k hn⟩
theorem Rf.keep (h : Rf w S d s) (k : Step [] S'' w w') : Rf w' S d s := h.step k (by simp)
theorem Rfm.lt (h : Rfm w S d a cap s) : ∀ k ∈ S, k < w.heap.size := by
 intro k hk
 rw [h.hS] at hk
 rcases List.mem_cons.1 hk with rfl | hk
 ·exact h.blk.lt
 ·exact h.row.lt k hk
theorem Rf.lt (h : Rf w S d s) : ∀ k ∈ S, k < w.heap.size := by obtain ⟨a, cap, h⟩ := h; exact h.lt
theorem Rfm.memd (h : Rfm w S d a cap s) : d ∈ S := by rw [h.hS]; simp
/-- The struct's numbers have turned. -/
theorem Rfm.head (h : Rfm w S d a cap s) (k : Step [d] [d] w w') {s' : St} (he : s'.E = s.E) (hb : Blk w' d 45 (rdc (.slice a s.E.length cap) s'.room s'.fuse s'.off)) : Rfm w' S d a cap s' :=
 ⟨h.hS, by rw [he]; exact hb, by rw [he]; exact h.row.step k (by intro g hg hm; simp only [List.mem_singleton] at hm; exact h.ne (hm ▸ hg)), h.ne⟩
end
theorem drewN_add (w : World) (a b : Nat) : (w.drewN a).drewN b = w.drewN (a + b) := by unfold World.drewN; simp [Nat.add_assoc]

theorem rnew_any (room : Int) (w : World) : Calls Tryz.prog 7 #[.int .i64 room] w fun e w' => e = .returned (.tuple #[.pointer (some ⟨w.heap.size, 0, none⟩), .bool (okRoom room)]) ∧ Rf w' [w.heap.size] w.heap.size (newS room) ∧ Step [] [w.heap.size] w w' := by
 have hfin : Rf (w.alloc (.cells (rdc (.slice none 0 0) room (-1) false) 45)) [w.heap.size] w.heap.size (newS room) := ⟨none, 0, ⟨rfl, Blk.new w _ _, Row.none _ 3, by simp [blks]⟩⟩
 have HF := Lib.hid hfin
 have hst := Lib.hid ((Step.refl [] w).hold (.cells (rdc (.slice none 0 0) room (-1) false) 45))
 clear hfin
 by_cases h0 : 0 ≤ room
 ·have hd0 : decide (0 ≤ room) = true := decide_eq_true h0
  have HK : Hid (okRoom room = decide (room ≤ 8388608)) := Lib.hid (by simp [okRoom, h0])
  go_enter Tryz.func7, Tryz.ntmps7
  go_wp2_with fail
  refine bodyPost_ret (v := .tuple #[.pointer (some ⟨w.heap.size, 0, none⟩), .bool (okRoom room)]) ?_ rfl ⟨rfl, HF.out, hst.out⟩
  rw [HK.out]
  simp [results, Tryz.results7, go_sem]
 ·have hd0 : decide (0 ≤ room) = false := decide_eq_false h0
  have HK : Hid (okRoom room = false) := Lib.hid (by simp [okRoom]; omega)
  go_enter Tryz.func7, Tryz.ntmps7
  go_wp2_with fail
  refine bodyPost_ret (v := .tuple #[.pointer (some ⟨w.heap.size, 0, none⟩), .bool (okRoom room)]) ?_ rfl ⟨rfl, HF.out, hst.out⟩
  rw [HK.out]
  simp [results, Tryz.results7, go_sem]

theorem used_take {E : List En} {k : Nat} {x : En} (h : E[k]? = some x) : usedE (E.take (k + 1)) = usedE (E.take k) + (x.d.length + x.l.length) := by
 have hk := (List.getElem?_eq_some_iff.1 h).1
 have hx := (List.getElem?_eq_some_iff.1 h).2
 rw [List.take_succ_eq_append_getElem hk, hx, used_app, used_cons]
 simp [usedE]
theorem used_take_le (E : List En) (k : Nat) : usedE (E.take k) ≤ usedE E := by
 conv => rhs; rw [← List.take_append_drop k E]
 rw [used_app]; omega

set_option maxHeartbeats 1000000 in
theorem rused_any (w : World) (S : List Nat) (d : Nat) (s : St) (h : Rf w S d s) (hB : StB s) : Calls Tryz.prog 24 #[.pointer (some ⟨d, 0, none⟩)] w fun e w' => e = .returned (.int .i64 (usedE s.E : Nat)) ∧ ∃ n, w' = w.drewN n := by
 obtain ⟨a, cap, h⟩ := h
 have c0 := h.blk.cell 0
 simp only [List.getElem?_toArray, List.getElem?_cons_zero, List.getElem?_cons_succ] at c0
 have HB := Lib.hid (And.intro h hB)
 have hlen : s.E.length ≤ 1099511627776 := hB.len
 have hub : usedE s.E ≤ 8388608 := hB.used
 clear h hB
 obtain ⟨N, hN⟩ : ∃ N, N = s.E.length := ⟨_, rfl⟩
 rw [← hN] at c0 hlen
 have HN := Lib.hid hN
 clear hN
 go_enter Tryz.func24, Tryz.ntmps24
 go_wp2_with fail
 go_loopw [3, 4] (fun v i W => ∃ k q : Nat, i = .int .i64 k ∧ k ≤ N ∧ v = .int .i64 (usedE (s.E.take k) : Nat) ∧ Hid (W = w.drewN q)) (fun _ i _ => N - (intOf i).toNat)
 case atStart => exact ⟨0, 0, rfl, by omega, by simp [usedE], Lib.hid rfl⟩
 case round =>
  rename World => W
  obtain ⟨k, q, rfl, hkN, rfl, HW⟩ := hrel
  have c0' := cell_drewN HW.out c0
  by_cases hlt : k < N
  ·have hlt' : (k : Int) < N := by omega
   obtain ⟨x, hx⟩ : ∃ x, s.E[k]? = some x := ⟨_, List.getElem?_eq_getElem (by rw [← HN.out]; exact hlt)⟩
   obtain ⟨g, off, hs1⟩ := (HB.out.1.row).some_of_pos (by rw [← HN.out]; omega)
   have hr := HB.out.1.row.rd
   rw [hs1] at hr
   obtain ⟨z0, z1, z2⟩ := rd_en hr hx
   replace z1 := cell_drewN HW.out z1
   replace z2 := cell_drewN HW.out z2
   have gl : g < W.heap.size := by have := World.block_lt_of_cell? _ _ z1; simpa using this
   have hsum := used_take hx
   have hle := used_take_le s.E (k + 1)
   rw [hsum] at hle
   obtain ⟨n, hn⟩ : ∃ n, n = usedE (s.E.take k) := ⟨_, rfl⟩
   rw [← hn] at hsum hle ⊢
   have HS := Lib.hid hsum
   have hb2 := Nat.le_trans hle hub
   subst hs1
   clear z0 hr hx hsum hn hle c0
   go_wp2_with fail
   go_quiet (fail)
   go_wp2_with fail
   go_roundw
   case rel => exact ⟨k + 1, q + nq, by go_num, by omega, by rw [HS.out]; go_num; try omega, Lib.hid (by rw [HW.out, drewN_add])⟩
   case measure => simp [intOf]; omega
  ·have hnl : ¬ (k : Int) < N := by omega
   have hke : Hid (k = s.E.length) := Lib.hid (by rw [← HN.out]; omega)
   clear c0
   go_wp2_with fail
   exact bodyPost_ret (results_tmp rfl _ _ _) rfl ⟨by rw [hke.out, List.take_length] <;> rfl, q, HW.out⟩

/-- Where a file stands; -1: nowhere. -/
def atI (E : List En) (n : List UInt8) : Int := match E.findIdx? (fun f => f.n == n) with | some i => (i : Int) | none => -1
theorem atI_none {E : List En} {n : List UInt8} (h : ∀ f ∈ E, (f.n == n) = false) : atI E n = -1 := by
 unfold atI
 rw [List.findIdx?_eq_none_iff.2 h]
theorem atI_some {E : List En} {n : List UInt8} {k : Nat} {x : En} (hx : E[k]? = some x) (hq : x.n = n) (h : ∀ f ∈ E.take k, (f.n == n) = false) : atI E n = k := by
 have hk := (List.getElem?_eq_some_iff.1 hx).1
 have hg := (List.getElem?_eq_some_iff.1 hx).2
 unfold atI
 have : E.findIdx? (fun f => f.n == n) = some k := by
  rw [List.findIdx?_eq_some_iff_getElem]
  refine ⟨hk, by rw [hg]; simpa using hq, fun j hj => ?_⟩
  have := h (E[j]'(by omega)) (List.mem_of_getElem? (i := j) (by rw [List.getElem?_take, if_pos hj, List.getElem?_eq_getElem (by omega)]))
  simpa using this
 rw [this]
theorem entake_no {E : List En} {n : List UInt8} {k : Nat} {x : En} (hx : E[k]? = some x) (hq : ¬ x.n = n) (h : ∀ f ∈ E.take k, (f.n == n) = false) : ∀ f ∈ E.take (k + 1), (f.n == n) = false := by
 have hk := (List.getElem?_eq_some_iff.1 hx).1
 have hg := (List.getElem?_eq_some_iff.1 hx).2
 intro f hf
 rw [List.take_succ_eq_append_getElem hk, hg] at hf
 rcases List.mem_append.1 hf with hf | hf
 ·exact h f hf
 ·simp at hf; subst hf; simpa using hq
/-- A file that is there, by its place. -/
theorem atI_split {E : List En} {n : List UInt8} {f : En} (h : eget E n = some f) : ∃ A B, E = A ++ f :: B ∧ f.n = n ∧ atI E n = A.length ∧ E[A.length]? = some f := by
 obtain ⟨h1, A, B, rfl, h2⟩ := List.find?_eq_some_iff_append.1 h
 have hn : f.n = n := by simpa using h1
 refine ⟨A, B, rfl, hn, atI_some (x := f) (by simp) hn (by simpa using h2), by simp⟩
theorem atI_miss {E : List En} {n : List UInt8} (h : eget E n = none) : atI E n = -1 := atI_none (by simpa [eget] using h)
def AtR (w : World) (E : List En) (n : List UInt8) (k : Nat) (W : World) : Prop := w = W ∧ ∀ f ∈ E.take k, (f.n == n) = false
set_option maxHeartbeats 1000000 in
theorem rat_any (n : List UInt8) (w : World) (S : List Nat) (d : Nat) (s : St) (h : Rf w S d s) (hB : StB s) : Calls Tryz.prog 45 #[.pointer (some ⟨d, 0, none⟩), Str n] w fun e w' => e = .returned (.int .i64 (atI s.E n)) ∧ w = w' := by
 obtain ⟨a, cap, h⟩ := h
 have c0 := h.blk.cell 0
 simp only [List.getElem?_toArray, List.getElem?_cons_zero, List.getElem?_cons_succ] at c0
 have HB := Lib.hid (And.intro h hB)
 have hlen : s.E.length ≤ 1099511627776 := hB.len
 clear h hB
 obtain ⟨N, hN⟩ : ∃ N, N = s.E.length := ⟨_, rfl⟩
 rw [← hN] at c0 hlen
 have HN := Lib.hid hN
 clear hN
 go_enter Tryz.func45, Tryz.ntmps45
 go_wp2_with fail
 go_loopw [5] (fun i W => ∃ k : Nat, i = .int .i64 k ∧ k ≤ N ∧ AtR w s.E n k W) (fun i _ => N - (intOf i).toNat)
 case atStart => exact ⟨0, rfl, by omega, rfl, by simp⟩
 case round =>
  rename World => W
  obtain ⟨k, rfl, hkN, HW⟩ := hrel
  obtain ⟨rfl, hno⟩ := HW
  have HNO := Lib.hid hno
  clear hno
  by_cases hlt : k < N
  ·have hlt' : (k : Int) < N := by omega
   obtain ⟨x, hx⟩ : ∃ x, s.E[k]? = some x := ⟨_, List.getElem?_eq_getElem (by rw [← HN.out]; exact hlt)⟩
   obtain ⟨g, off, hs1⟩ := (HB.out.1.row).some_of_pos (by rw [← HN.out]; omega)
   have hr := HB.out.1.row.rd
   rw [hs1] at hr
   obtain ⟨z0, z1, z2⟩ := rd_en hr hx
   have gl : g < w.heap.size := by have := World.block_lt_of_cell? _ _ z1; simpa using this
   have HX := Lib.hid hx
   subst hs1
   clear z1 z2 hr hx
   by_cases hq : x.n = n
   ·have HE : Hid (atI s.E n = (k : Int)) := Lib.hid (atI_some HX.out hq HNO.out)
    rw [hq] at z0
    clear hq
    go_wp2_with fail
    exact bodyPost_ret (results_tmp rfl _ _ _) rfl ⟨by rw [HE.out] <;> rfl, rfl⟩
   ·have hqd : (x.n == n) = false := by simpa using hq
    have HQ := Lib.hid hq
    clear hq
    go_wp2_with fail
    go_roundw
    case rel => exact ⟨k + 1, by go_num, by omega, rfl, entake_no HX.out HQ.out HNO.out⟩
    case measure => simp [intOf]; omega
  ·have hnl : ¬ (k : Int) < N := by omega
   have HE : Hid (atI s.E n = -1) := Lib.hid (atI_none (by rw [show k = s.E.length by rw [← HN.out]; omega, List.take_length] at HNO; exact HNO.out))
   go_wp2_with fail
   exact bodyPost_ret (results_tmp rfl _ _ _) rfl ⟨by rw [HE.out] <;> rfl, rfl⟩

theorem rburns_any (w : World) (S : List Nat) (d cap : Nat) (a : Option Addr) (s : St) (h : Rfm w S d a cap s) (hf : s.fuse ≤ 9223372036854775807) : Calls Tryz.prog 44 #[.pointer (some ⟨d, 0, none⟩)] w fun e w' => e = .returned (.bool s.burn.off) ∧ Rfm w' S d a cap s.burn ∧ Step [d] [d] w w' := by
 have c2 := h.blk.cell 2
 have c3 := h.blk.cell 3
 simp only [List.getElem?_toArray, List.getElem?_cons_zero, List.getElem?_cons_succ] at c2 c3
 have f2 := h.blk.frozen 2
 have f3 := h.blk.frozen 3
 have fl := h.blk.lt
 have HB := Lib.hid h
 clear h
 obtain ⟨E, room, fuse, off⟩ := s
 simp only at c2 c3 hf
 go_enter Tryz.func44, Tryz.ntmps44
 by_cases h0 : fuse = 0
 ·subst h0
  go_wp2_with fail
  refine bodyPost_ret (results_tmp rfl _ _ _) rfl ⟨by simp [St.burn], ?_, (Step.refl [d] w).setCell (p := ⟨d, 3, none⟩) (.inl (by simp)) _⟩
  refine HB.out.head ((Step.refl [d] w).setCell (p := ⟨d, 3, none⟩) (.inl (by simp)) _) rfl ?_
  simpa [St.burn] using HB.out.blk.set 3 (.bool true)
 ·have hd : (fuse == 0) = false := by simpa using h0
  by_cases h1 : 0 < fuse
  ·have h1d : decide (0 < fuse) = true := decide_eq_true h1
   go_wp2_with fail
   refine bodyPost_ret (results_tmp rfl _ _ _) rfl ⟨by simp [St.burn, h0], ?_, (Step.refl [d] w).setCell (p := ⟨d, 2, none⟩) (.inl (by simp)) _⟩
   refine HB.out.head ((Step.refl [d] w).setCell (p := ⟨d, 2, none⟩) (.inl (by simp)) _) rfl ?_
   simpa [St.burn, h0, h1] using HB.out.blk.set 2 (.int .i64 (fuse - 1))
  ·have h1d : decide (0 < fuse) = false := decide_eq_false h1
   go_wp2_with fail
   refine bodyPost_ret (results_tmp rfl _ _ _) rfl ⟨by simp [St.burn, h0], ?_, Step.refl _ _⟩
   have e : St.burn ⟨E, room, fuse, off⟩ = ⟨E, room, fuse, off⟩ := by simp only [St.burn]; rw [if_neg (by omega)]; simp [h0]
   rw [e]
   exact HB.out

set_option maxHeartbeats 1000000 in
theorem rread_any (x : List UInt8) (w : World) (S : List Nat) (d : Nat) (s : St) (h : Rf w S d s) (hB : StB s) : Calls Tryz.prog 33 #[.pointer (some ⟨d, 0, none⟩), Str x] w fun e w' => e = .returned (.tuple #[Str (readS s x).1, .int .i64 (readS s x).2]) ∧ ∃ n, w' = w.drewN n := by
 obtain ⟨a, cap, h⟩ := h
 have c3 := h.blk.cell 3
 simp only [List.getElem?_toArray, List.getElem?_cons_zero, List.getElem?_cons_succ] at c3
 have hat := rat_any x w S d s ⟨a, cap, h⟩ hB
 have HF := Lib.hid hat
 have HB := Lib.hid (And.intro h hB)
 clear hat h hB
 go_enter Tryz.func33, Tryz.ntmps33
 go_wp2_with fail
 refine HF.out.mono ?_
 rintro e w1 ⟨rfl, rfl⟩
 cases ho : s.off with
 | true =>
  have HO := Lib.hid ho
  rw [ho] at c3
  clear ho
  go_wp2_with fail
  refine bodyPost_ret (v := .tuple #[.string ⟨#[]⟩, .int .i64 7]) ?_ rfl ⟨by simp [readS, HO.out], 0, rfl⟩
  simp [results, Tryz.results33, go_sem]
 | false =>
  have HO := Lib.hid ho
  rw [ho] at c3
  clear ho
  cases hg : eget s.E x with
  | none =>
   rw [atI_miss hg]
   have HG := Lib.hid hg
   clear hg
   go_wp2_with fail
   refine bodyPost_ret (v := .tuple #[.string ⟨#[]⟩, .int .i64 8]) ?_ rfl ⟨by simp [readS, HO.out, HG.out], 0, rfl⟩
   simp [results, Tryz.results33, go_sem]
  | some f =>
   obtain ⟨A, B, hE, hfn, hai, hel⟩ := atI_split hg
   rw [hai]
   have HG := Lib.hid (And.intro hg (And.intro hE (And.intro hfn hel)))
   have hAl : A.length < 1099511627776 := by
    have h1 := HB.out.2.len
    rw [hE] at h1
    simp at h1
    omega
   have hneg : decide ((A.length : Int) < 0) = false := decide_eq_false (by omega)
   clear hg hE hfn hai hel
   have c0 := HB.out.1.blk.cell 0
   simp only [List.getElem?_toArray, List.getElem?_cons_zero, List.getElem?_cons_succ] at c0
   have hAE : A.length < s.E.length := by rw [HG.out.2.1]; simp
   have hAi : (A.length : Int) < (s.E.length : Int) := by omega
   obtain ⟨g, off, hs1⟩ := (HB.out.1.row).some_of_pos (by omega)
   have hr := HB.out.1.row.rd
   rw [hs1] at hr
   obtain ⟨z0, z1, z2⟩ := rd_en hr HG.out.2.2.2
   have gl : g < w.heap.size := by have := World.block_lt_of_cell? _ _ z1; simpa using this
   have hful : f.d.length + f.l.length ≤ 8388608 := by
    have := used_mem (E := s.E) (f := f) (by rw [HG.out.2.1]; simp)
    have := HB.out.2.used
    omega
   have hcat : f.d.length + f.l.length ≤ 9223372036854775807 := by omega
   have HHF := Lib.hid hful
   rw [hs1] at c0
   clear z0 hr hs1 hful
   go_wp2_with fail
   go_quiet (fail)
   go_wp2_with fail
   refine bodyPost_ret (v := .tuple #[Str (f.d ++ f.l), .int .i64 0]) ?_ rfl ⟨by simp [readS, HO.out, HG.out.1], nq, rfl⟩
   simp [results, Tryz.results33, go_sem]

end Go.Proofs.YtjdgdmlhipbaaaaGreatDoor
namespace Go.Proofs.YtjdgdmlhipbaaaaGreatDoor
open Go.RowKit Go.Maps
set_option linter.unusedSimpArgs false
set_option linter.unusedVariables false
set_option maxRecDepth 100000


def RfP (r : Int × St) (S : List Nat) (d : Nat) (w : World) (e : Ending) (w' : World) : Prop := e = .returned (.int .i64 r.1) ∧ ∃ S', Rf w' S' d r.2 ∧ Step S S' w w'
theorem en_set (A B : List En) (f : En) (d' l' : List UInt8) : ((enVs (A ++ f :: B)).set (A.length * 3 + 1) (Str d')).set (A.length * 3 + 2) (Str l') = enVs (A ++ ⟨f.n, d', l'⟩ :: B) := by
 have h : ∀ A : List En, ∀ B f d' l', ((enVs (A ++ f :: B)).set (A.length * 3 + 1) (Str d')).set (A.length * 3 + 2) (Str l') = enVs (A ++ ⟨f.n, d', l'⟩ :: B) := by
  intro A
  induction A with
  | nil => intro B f d' l'; rfl
  | cons x r ih =>
   intro B f d' l'
   show ((Str x.n :: Str x.d :: Str x.l :: enVs (r ++ f :: B)).set ((r.length + 1) * 3 + 1) (Str d')).set ((r.length + 1) * 3 + 2) (Str l') = Str x.n :: Str x.d :: Str x.l :: enVs (r ++ ⟨f.n, d', l'⟩ :: B)
   rw [← ih B f d' l', show (r.length + 1) * 3 + 1 = r.length * 3 + 1 + 1 + 1 + 1 by omega, show (r.length + 1) * 3 + 2 = r.length * 3 + 2 + 1 + 1 + 1 by omega]
   rfl
 exact h A B f d' l'
theorem en_late (A B : List En) (f : En) (l' : List UInt8) : (enVs (A ++ f :: B)).set (A.length * 3 + 2) (Str l') = enVs (A ++ ⟨f.n, f.d, l'⟩ :: B) := by
 have h : ∀ A : List En, ∀ B f l', (enVs (A ++ f :: B)).set (A.length * 3 + 2) (Str l') = enVs (A ++ ⟨f.n, f.d, l'⟩ :: B) := by
  intro A
  induction A with
  | nil => intro B f l'; rfl
  | cons x r ih =>
   intro B f l'
   show (Str x.n :: Str x.d :: Str x.l :: enVs (r ++ f :: B)).set ((r.length + 1) * 3 + 2) (Str l') = Str x.n :: Str x.d :: Str x.l :: enVs (r ++ ⟨f.n, f.d, l'⟩ :: B)
   rw [← ih B f l', show (r.length + 1) * 3 + 2 = r.length * 3 + 2 + 1 + 1 + 1 by omega]
   rfl
 exact h A B f l'
theorem Rfm.mid {w : World} {S : List Nat} {d cap g off : Nat} {s : St} {A B : List En} {f : En} (h : Rfm w S d (some ⟨g, off, none⟩) cap s) (hE : s.E = A ++ f :: B) (d' l' : List UInt8) :
  Rfm ((w.setCell ⟨g, off + A.length * 3 + 1, none⟩ (Str d')).setCell ⟨g, off + A.length * 3 + 2, none⟩ (Str l')) S d (some ⟨g, off, none⟩) cap ⟨A ++ ⟨f.n, d', l'⟩ :: B, s.room, s.fuse, s.off⟩ ∧ Step S S w ((w.setCell ⟨g, off + A.length * 3 + 1, none⟩ (Str d')).setCell ⟨g, off + A.length * 3 + 2, none⟩ (Str l')) := by
 have hg : g ∈ S := by rw [h.hS]; simp [blks]
 have hdg : d ≠ g := fun e => h.ne (by simp [blks, e])
 have hl : s.E.length = (A ++ (⟨f.n, d', l'⟩ : En) :: B).length := by rw [hE]; simp
 have hst : Step S S w ((w.setCell ⟨g, off + A.length * 3 + 1, none⟩ (Str d')).setCell ⟨g, off + A.length * 3 + 2, none⟩ (Str l')) := ((Step.refl S w).setCell (p := ⟨g, _, none⟩) (.inl hg) _).setCell (p := ⟨g, _, none⟩) (.inl hg) _
 have hlen : A.length * 3 + 2 < s.E.length * 3 := by rw [hE]; simp; omega
 have r1 := h.row.set (j := A.length * 3 + 1) rfl (by omega) (Str d')
 have r2 := r1.set (j := A.length * 3 + 2) rfl (by omega) (Str l')
 rw [show enVs s.E = enVs (A ++ f :: B) by rw [hE], en_set] at r2
 refine ⟨⟨h.hS, ?_, ?_, h.ne⟩, hst⟩
 ·have := (h.blk.far (p := ⟨g, off + A.length * 3 + 1, none⟩) hdg (Str d')).far (p := ⟨g, off + A.length * 3 + 2, none⟩) hdg (Str l')
  simp only
  rw [← hl]
  exact this
 ·simp only
  rw [← hl]
  exact r2
theorem Rfm.late {w : World} {S : List Nat} {d cap g off : Nat} {s : St} {A B : List En} {f : En} (h : Rfm w S d (some ⟨g, off, none⟩) cap s) (hE : s.E = A ++ f :: B) (l' : List UInt8) :
  Rfm (w.setCell ⟨g, off + A.length * 3 + 2, none⟩ (Str l')) S d (some ⟨g, off, none⟩) cap ⟨A ++ ⟨f.n, f.d, l'⟩ :: B, s.room, s.fuse, s.off⟩ ∧ Step S S w (w.setCell ⟨g, off + A.length * 3 + 2, none⟩ (Str l')) := by
 have hg : g ∈ S := by rw [h.hS]; simp [blks]
 have hdg : d ≠ g := fun e => h.ne (by simp [blks, e])
 have hl : s.E.length = (A ++ (⟨f.n, f.d, l'⟩ : En) :: B).length := by rw [hE]; simp
 have hst : Step S S w (w.setCell ⟨g, off + A.length * 3 + 2, none⟩ (Str l')) := (Step.refl S w).setCell (p := ⟨g, _, none⟩) (.inl hg) _
 have hlen : A.length * 3 + 2 < s.E.length * 3 := by rw [hE]; simp; omega
 have r2 := h.row.set (j := A.length * 3 + 2) rfl (by omega) (Str l')
 rw [show enVs s.E = enVs (A ++ f :: B) by rw [hE], en_late] at r2
 refine ⟨⟨h.hS, ?_, ?_, h.ne⟩, hst⟩
 ·have := h.blk.far (p := ⟨g, off + A.length * 3 + 2, none⟩) hdg (Str l')
  simp only
  rw [← hl]
  exact this
 ·simp only
  rw [← hl]
  exact r2

theorem Tryz.info_file : (Tryz.prog.info? 72).map (fun i => (i.zero, i.size, i.bytes)) = some (some (.agg #[.string ⟨#[]⟩, .string ⟨#[]⟩, .string ⟨#[]⟩]), 3, 48) := by kernel_rfl
theorem enVs_take (A R : List En) : (enVs (A ++ R)).take (A.length * 3) = enVs A := by rw [enVs_app, List.take_left' (enVs_len A)]
theorem enVs_drop (A R : List En) : (enVs (A ++ R)).drop (A.length * 3) = enVs R := by rw [enVs_app, List.drop_left' (enVs_len A)]

/-- Who holds the struct's list: stores elsewhere leave that. -/
theorem far_cell {w : World} {d g : Nat} {v : Value} (hdg : d ≠ g) (h : w.cell? ⟨d, 0, none⟩ = some v) (j : Nat) (u : Value) : (w.setCell ⟨g, j, none⟩ u).cell? ⟨d, 0, none⟩ = some v :=
 (Step.cell ((Step.refl [g] w).setCell (p := ⟨g, j, none⟩) (.inl (by simp)) u) h (by simpa using hdg))
theorem far_lt {w : World} {g : Nat} (h : g < w.heap.size) (p : Addr) (u : Value) : g < (w.setCell p u).heap.size := by simpa [World.setCell] using h

set_option maxHeartbeats 1000000 in
theorem rsync_any (x : List UInt8) (w : World) (S : List Nat) (d : Nat) (s : St) (h : Rf w S d s) (hB : StB s) (hr : ERis s.E) : Calls Tryz.prog 37 #[.pointer (some ⟨d, 0, none⟩), Str x] w (RfP (syncS s x) S d w) := by
 have HR := Lib.hid hr
 clear hr

 obtain ⟨a, cap, h⟩ := h
 have c3 := h.blk.cell 3
 simp only [List.getElem?_toArray, List.getElem?_cons_zero, List.getElem?_cons_succ] at c3
 have hat := rat_any x w S d s ⟨a, cap, h⟩ hB
 have HF := Lib.hid hat
 have HB := Lib.hid (And.intro h hB)
 clear hat h hB
 go_enter Tryz.func37, Tryz.ntmps37
 go_wp2_with fail
 refine HF.out.mono ?_
 rintro e w1 ⟨rfl, rfl⟩
 cases ho : s.off with
 | true =>
  have HO := Lib.hid ho
  rw [ho] at c3
  clear ho
  go_wp2_with fail
  refine bodyPost_ret (results_tmp rfl _ _ _) rfl ?_
  simp only [RfP, syncS, onFile, HO.out, Bool.false_eq_true, if_false, if_true]
  exact ⟨rfl, S, ⟨a, cap, HB.out.1⟩, Step.refl _ _⟩
 | false =>
  have HO := Lib.hid ho
  rw [ho] at c3
  clear ho
  cases hg : eget s.E x with
  | none =>
   rw [atI_miss hg]
   have HG := Lib.hid hg
   clear hg
   go_wp2_with fail
   refine bodyPost_ret (results_tmp rfl _ _ _) rfl ?_
   simp only [RfP, syncS, onFile, HO.out, HG.out, Bool.false_eq_true, if_false, if_true]
   exact ⟨rfl, S, ⟨a, cap, HB.out.1⟩, Step.refl _ _⟩
  | some f =>
   obtain ⟨A, B, hE, hfn, hai, hel⟩ := atI_split hg
   rw [hai]
   have HG := Lib.hid (And.intro hg (And.intro hE (And.intro hfn hel)))
   have hAl : A.length < 1099511627776 := by
    have h1 := HB.out.2.len
    rw [hE] at h1
    simp at h1
    omega
   have hneg : decide ((A.length : Int) < 0) = false := decide_eq_false (by omega)
   clear hg hE hfn hai hel
   go_wp2_with fail
   refine (rburns_any w S d cap a s HB.out.1 HB.out.2.fuse.2).mono ?_
   rintro e w2 ⟨rfl, hb2, hs2⟩
   have hw2 : Step S S w w2 := hs2.wide (by intro k hk; simp only [List.mem_singleton] at hk; rw [hk, HB.out.1.hS]; simp) (by intro k hk; exact .inl hk)
   have H2 := Lib.hid (And.intro hb2 hw2)
   clear hb2 hs2 hw2
   cases hbo : s.burn.off with
   | true =>
    have HQ := Lib.hid hbo
    clear hbo
    go_wp2_with fail
    refine bodyPost_ret (results_tmp rfl _ _ _) rfl ?_
    simp only [RfP, syncS, onFile, HO.out, HG.out.1, HQ.out, Bool.false_eq_true, if_false, if_true]
    exact ⟨rfl, S, ⟨a, cap, H2.out.1⟩, H2.out.2⟩
   | false =>
    have HQ := Lib.hid hbo
    clear hbo
    have hAE : A.length < s.E.length := by rw [HG.out.2.1]; simp
    have hAi : (A.length : Int) < (s.E.length : Int) := by omega
    obtain ⟨g, off, hs1⟩ := (HB.out.1.row).some_of_pos (by omega)
    have hful : f.d.length + f.l.length ≤ 8388608 := by
     have := used_mem (E := s.E) (f := f) (by rw [HG.out.2.1]; simp)
     have := HB.out.2.used
     omega
    have HA : Hid (a = some ⟨g, off, none⟩) := Lib.hid hs1
    have H3 : Hid (Rfm w2 S d (some ⟨g, off, none⟩) cap s.burn) := Lib.hid (by rw [← hs1]; exact H2.out.1)
    have hr := H3.out.row.rd
    have hr2 := rd_en (E := s.E) hr HG.out.2.2.2
    clear hs1 hr
    have c0 := H3.out.blk.cell 0
    simp only [List.getElem?_toArray, List.getElem?_cons_zero, List.getElem?_cons_succ] at c0
    rw [show s.burn.E = s.E from rfl] at c0
    obtain ⟨z0, z1, z2⟩ := hr2
    have gl : g < w2.heap.size := by have := World.block_lt_of_cell? _ _ z1; simpa using this
    have y1 := (H3.out.row.cell rfl (A.length * 3 + 1) (by show _ < s.E.length * 3; omega)).2.1
    have y2 := (H3.out.row.cell rfl (A.length * 3 + 2) (by show _ < s.E.length * 3; omega)).2.1
    rw [← Nat.add_assoc] at y1 y2
    have HDG : Hid (d ≠ g) := Lib.hid (fun e => H3.out.ne (by simp [blks, e]))
    clear z0
    have hcat : f.d.length + f.l.length ≤ 9223372036854775807 := by omega
    go_upto_region 8 with fail
    have HC : Hid (w2.drew.cell? ⟨d, 0, none⟩ = some (.slice (some ⟨g, off, none⟩) s.E.length cap) ∧ g < w2.drew.heap.size) := Lib.hid ⟨c0, gl⟩
    refine wp_region_held_drew (S := fun W => Hid (W.cell? ⟨d, 0, none⟩ = some (.slice (some ⟨g, off, none⟩) s.E.length cap) ∧ g < W.heap.size)) (by kernel_rfl) (HC) (fun hHeld => ?_)
    refine wpAnyH_take (i := 0) (v := ?_) rfl (by kernel_rfl) (by kernel_rfl) (by kernel_rfl) (fun _ _ _ h => h) (Or.inl ⟨by rfl, ?_⟩) hHeld ?_
    rotate_left
    ·intro w hSw1
     try dsimp only at hSw1
     go_simp
     try (with_reducible rfl)
    try simp only [Act.put, LsA, LsB, LsC, LsD, LsE, LsF]
    refine wpAnyH_take (i := 1) (v := ?_) rfl (by kernel_rfl) (by kernel_rfl) (by kernel_rfl) (fun _ _ _ h => h) (Or.inl ⟨by rfl, ?_⟩) hHeld ?_
    rotate_left
    ·intro w hSw1
     try dsimp only at hSw1
     go_simp
     try (with_reducible rfl)
    try simp only [Act.put, LsA, LsB, LsC, LsD, LsE, LsF]
    refine wpAnyH_take (i := 2) (v := ?_) rfl (by kernel_rfl) (by kernel_rfl) (by kernel_rfl) (fun _ _ _ h => h) (Or.inl ⟨by rfl, ?_⟩) hHeld ?_
    rotate_left
    ·intro w hSw1
     try dsimp only at hSw1
     go_simp
     try (with_reducible rfl)
    try simp only [Act.put, LsA, LsB, LsC, LsD, LsE, LsF]
    refine wpAnyH_take (i := 3) (v := ?_) rfl (by kernel_rfl) (by kernel_rfl) (by kernel_rfl) (fun _ _ _ h => h) (Or.inl ⟨by rfl, ?_⟩) hHeld ?_
    rotate_left
    ·intro w hSw1
     have t0 := hSw1.out.1
     have tl := hSw1.out.2
     go_simp
     try (with_reducible rfl)
    try simp only [Act.put, LsA, LsB, LsC, LsD, LsE, LsF]
    refine wpAnyH_take (i := 4) (v := ?_) rfl (by kernel_rfl) (by kernel_rfl) (by kernel_rfl) (fun _ _ _ h => h) (Or.inl ⟨by rfl, ?_⟩) hHeld ?_
    rotate_left
    ·intro w hSw1
     try dsimp only at hSw1
     go_simp
     try (with_reducible rfl)
    try simp only [Act.put, LsA, LsB, LsC, LsD, LsE, LsF]
    refine wpAnyH_take (i := 5) (v := ?_) rfl (by kernel_rfl) (by kernel_rfl) (by kernel_rfl) (fun _ _ _ h => h) (Or.inl ⟨by rfl, ?_⟩) hHeld ?_
    rotate_left
    ·intro w hSw1
     try dsimp only at hSw1
     go_simp
     try (with_reducible rfl)
    try simp only [Act.put, LsA, LsB, LsC, LsD, LsE, LsF]
    refine wpAnyH_take (i := 6) (v := ?_) rfl (by kernel_rfl) (by kernel_rfl) (by kernel_rfl) (fun _ _ _ h => h) (Or.inl ⟨by rfl, ?_⟩) hHeld ?_
    rotate_left
    ·intro w hSw1
     try dsimp only at hSw1
     go_simp
     try (with_reducible rfl)
    try simp only [Act.put, LsA, LsB, LsC, LsD, LsE, LsF]
    refine wpAnyH_take (i := 7) (v := ?_) rfl (by kernel_rfl) (by kernel_rfl) (by kernel_rfl) (fun _ _ _ h => h) (Or.inl ⟨by rfl, ?_⟩) hHeld ?_
    rotate_left
    ·intro w hSw1
     try dsimp only at hSw1
     go_simp
     try (with_reducible rfl)
    try simp only [Act.put, LsA, LsB, LsC, LsD, LsE, LsF]
    refine wpAnyH_take (i := 8) (v := ?_) rfl (by kernel_rfl) (by kernel_rfl) (by kernel_rfl) (fun _ _ _ h => h) (Or.inl ⟨by rfl, ?_⟩) hHeld ?_
    rotate_left
    ·intro w hSw1
     have t0 := hSw1.out.1
     have tl := hSw1.out.2
     go_simp
     try (with_reducible rfl)
    try simp only [Act.put, LsA, LsB, LsC, LsD, LsE, LsF]
    refine wpAnyH_take (i := 9) (v := ?_) rfl (by kernel_rfl) (by kernel_rfl) (by kernel_rfl) (fun _ _ _ h => h) (Or.inl ⟨by rfl, ?_⟩) hHeld ?_
    rotate_left
    ·intro w hSw1
     try dsimp only at hSw1
     go_simp
     try (with_reducible rfl)
    try simp only [Act.put, LsA, LsB, LsC, LsD, LsE, LsF]
    refine wpAnyH_take (i := 10) (v := ?_) rfl (by kernel_rfl) (by kernel_rfl) (by kernel_rfl) (fun _ _ _ h => h) (Or.inl ⟨by rfl, ?_⟩) hHeld ?_
    rotate_left
    ·intro w hSw1
     try dsimp only at hSw1
     go_simp
     try (with_reducible rfl)
    try simp only [Act.put, LsA, LsB, LsC, LsD, LsE, LsF]
    refine wpAnyH_take (i := 11) (v := ?_) rfl (by kernel_rfl) (by kernel_rfl) (by kernel_rfl) (fun _ _ _ h => h) (Or.inl ⟨by rfl, ?_⟩) hHeld ?_
    rotate_left
    ·intro w hSw1
     try dsimp only at hSw1
     go_simp
     try (with_reducible rfl)
    try simp only [Act.put, LsA, LsB, LsC, LsD, LsE, LsF]
    refine wpAnyH_take (i := 12) (v := ?_) rfl (by kernel_rfl) (by kernel_rfl) (by kernel_rfl) (fun _ _ _ h => h) (Or.inl ⟨by rfl, ?_⟩) hHeld ?_
    rotate_left
    ·intro w hSw1
     try dsimp only at hSw1
     go_simp
     try (with_reducible rfl)
    try simp only [Act.put, LsA, LsB, LsC, LsD, LsE, LsF]
    refine wpAnyH_take (i := 13) (v := ?_) rfl (by kernel_rfl) (by kernel_rfl) (by kernel_rfl) (fun _ _ _ h => h) (Or.inl ⟨by rfl, ?_⟩) hHeld ?_
    rotate_left
    ·intro w hSw1
     have t0 := hSw1.out.1
     have tl := hSw1.out.2
     go_simp
     try (with_reducible rfl)
    try simp only [Act.put, LsA, LsB, LsC, LsD, LsE, LsF]
    refine wpAnyH_take (i := 14) (v := ?_) rfl (by kernel_rfl) (by kernel_rfl) (by kernel_rfl) (fun _ _ _ h => h) (Or.inl ⟨by rfl, ?_⟩) hHeld ?_
    rotate_left
    ·intro w hSw1
     try dsimp only at hSw1
     go_simp
     try (with_reducible rfl)
    try simp only [Act.put, LsA, LsB, LsC, LsD, LsE, LsF]
    refine wpAnyH_take (i := 15) (v := ?_) rfl (by kernel_rfl) (by kernel_rfl) (by kernel_rfl) (fun _ _ _ h => h) (Or.inl ⟨by rfl, ?_⟩) hHeld ?_
    rotate_left
    ·intro w hSw1
     try dsimp only at hSw1
     go_simp
     try (with_reducible rfl)
    try simp only [Act.put, LsA, LsB, LsC, LsD, LsE, LsF]
    refine wpAnyH_take (i := 16) (v := ?_) rfl (by kernel_rfl) (by kernel_rfl) (by kernel_rfl) (fun _ _ _ h => h) (Or.inl ⟨by rfl, ?_⟩) hHeld ?_
    rotate_left
    ·intro w hSw1
     try dsimp only at hSw1
     go_simp
     try (with_reducible rfl)
    try simp only [Act.put, LsA, LsB, LsC, LsD, LsE, LsF]
    refine wpAnyH_take (i := 18) (v := ?_) rfl (by kernel_rfl) (by kernel_rfl) (by kernel_rfl) (fun _ _ _ h => h) (Or.inl ⟨by rfl, ?_⟩) hHeld ?_
    rotate_left
    ·intro w hSw1
     try dsimp only at hSw1
     go_simp
     try (with_reducible rfl)
    try simp only [Act.put, LsA, LsB, LsC, LsD, LsE, LsF]
    refine wpAnyH_take (i := 19) (v := ?_) rfl (by kernel_rfl) (by kernel_rfl) (by kernel_rfl) (fun _ _ _ h => h) (Or.inl ⟨by rfl, ?_⟩) hHeld ?_
    rotate_left
    ·intro w hSw1
     try dsimp only at hSw1
     go_simp
     try (with_reducible rfl)
    try simp only [Act.put, LsA, LsB, LsC, LsD, LsE, LsF]
    refine wpAnyH_take (i := 20) (v := ?_) rfl (by kernel_rfl) (by kernel_rfl) (by kernel_rfl) (fun _ _ _ h => h) (Or.inl ⟨by rfl, ?_⟩) hHeld ?_
    rotate_left
    ·intro w hSw1
     try dsimp only at hSw1
     go_simp
     try (with_reducible rfl)
    try simp only [Act.put, LsA, LsB, LsC, LsD, LsE, LsF]
    refine wpAnyH_take (i := 21) (v := ?_) rfl (by kernel_rfl) (by kernel_rfl) (by kernel_rfl) (fun _ _ _ h => h) (Or.inl ⟨by rfl, ?_⟩) hHeld ?_
    rotate_left
    ·intro w hSw1
     have t0 := hSw1.out.1
     have tl := hSw1.out.2
     go_simp
     try (with_reducible rfl)
    try simp only [Act.put, LsA, LsB, LsC, LsD, LsE, LsF]
    refine wpAnyH_take (i := 22) (v := ?_) rfl (by kernel_rfl) (by kernel_rfl) (by kernel_rfl) (fun _ _ _ h => h) (Or.inl ⟨by rfl, ?_⟩) hHeld ?_
    rotate_left
    ·intro w hSw1
     try dsimp only at hSw1
     go_simp
     try (with_reducible rfl)
    try simp only [Act.put, LsA, LsB, LsC, LsD, LsE, LsF]
    refine wpAnyH_take (i := 23) (v := ?_) rfl (by kernel_rfl) (by kernel_rfl) (by kernel_rfl) (fun _ _ _ h => h) (Or.inl ⟨by rfl, ?_⟩) hHeld ?_
    rotate_left
    ·intro w hSw1
     try dsimp only at hSw1
     go_simp
     try (with_reducible rfl)
    try simp only [Act.put, LsA, LsB, LsC, LsD, LsE, LsF]
    refine wpAnyH_take (i := 24) (v := ?_) rfl (by kernel_rfl) (by kernel_rfl) (by kernel_rfl) (fun _ _ _ h => h) (Or.inl ⟨by rfl, ?_⟩) hHeld ?_
    rotate_left
    ·intro w hSw1
     try dsimp only at hSw1
     go_simp
     try (with_reducible rfl)
    try simp only [Act.put, LsA, LsB, LsC, LsD, LsE, LsF]
    refine wpAnyH_ready (rs := [17, 25]) (by kernel_rfl) (by simp) ?_
    refine AllReadyH.cons rfl (fun K hK => ?_) (AllReadyH.cons rfl (fun K hK => ?_) (AllReadyH.nil))
    ·skip
     go_simp
     skip
     go_wp2_with fail
     refine hK.out _ _ (hHeld) (fun hHeld2 => ?_)
     clear hK K hHeld
     try simp only [Act.put, LsA, LsB, LsC, LsD, LsE, LsF]
     refine wpAnyH_ready (rs := [25]) (by kernel_rfl) (by simp) ?_
     refine AllReadyH.cons rfl (fun K hK => ?_) AllReadyH.nil
     go_simp
     skip
     go_wp2_with fail
     refine hK.out _ _ (hHeld2) (fun hHeld3 => ?_)
     clear hK K hHeld2
     try simp only [Act.put, LsA, LsB, LsC, LsD, LsE, LsF]
     refine wpAnyH_take (i := 26) (v := ?_) rfl (by kernel_rfl) (by kernel_rfl) (by kernel_rfl) (fun _ _ _ h => h) (Or.inl ⟨by rfl, ?_⟩) hHeld3 ?_
     rotate_left
     ·intro w hSw1
      try dsimp only at hSw1
      go_simp
      try (with_reducible rfl)
     try simp only [Act.put, LsA, LsB, LsC, LsD, LsE, LsF]
     refine wpAnyH_take (i := 27) (v := ?_) rfl (by kernel_rfl) (by kernel_rfl) (by kernel_rfl) (fun _ _ _ h => h) (Or.inl ⟨by rfl, ?_⟩) hHeld3 ?_
     rotate_left
     ·intro w hSw1
      try dsimp only at hSw1
      go_simp
      try (with_reducible rfl)
     try simp only [Act.put, LsA, LsB, LsC, LsD, LsE, LsF]
     refine wpAnyH_take (i := 28) (v := ?_) rfl (by kernel_rfl) (by kernel_rfl) (by kernel_rfl) (fun _ _ _ h => h) (Or.inl ⟨by rfl, ?_⟩) hHeld3 ?_
     rotate_left
     ·intro w hSw1
      try dsimp only at hSw1
      go_simp
      try (with_reducible rfl)
     try simp only [Act.put, LsA, LsB, LsC, LsD, LsE, LsF]
     refine wpAnyH_ready (rs := [29]) (by kernel_rfl) (by simp) ?_
     refine AllReadyH.cons rfl (fun K hK => ?_) AllReadyH.nil
     go_simp
     skip
     go_wp2_with fail
     refine hK.out _ _ (Lib.hid ⟨far_cell HDG.out hHeld3.out.1 _ _, far_lt hHeld3.out.2 _ _⟩) (fun hHeld4 => ?_)
     clear hK K hHeld3
     try simp only [Act.put, LsA, LsB, LsC, LsD, LsE, LsF]
     refine wpAnyH_take (i := 30) (v := ?_) rfl (by kernel_rfl) (by kernel_rfl) (by kernel_rfl) (fun _ _ _ h => h) (Or.inl ⟨by rfl, ?_⟩) hHeld4 ?_
     rotate_left
     ·intro w hSw1
      try dsimp only at hSw1
      go_simp
      try (with_reducible rfl)
     try simp only [Act.put, LsA, LsB, LsC, LsD, LsE, LsF]
     refine wpAnyH_take (i := 31) (v := ?_) rfl (by kernel_rfl) (by kernel_rfl) (by kernel_rfl) (fun _ _ _ h => h) (Or.inl ⟨by rfl, ?_⟩) hHeld4 ?_
     rotate_left
     ·intro w hSw1
      try dsimp only at hSw1
      go_simp
      try (with_reducible rfl)
     try simp only [Act.put, LsA, LsB, LsC, LsD, LsE, LsF]
     refine wpAnyH_ready (rs := [32]) (by kernel_rfl) (by simp) ?_
     refine AllReadyH.cons rfl (fun K hK => ?_) AllReadyH.nil
     go_simp
     skip
     go_wp2_with fail
     refine hK.out _ _ (Lib.hid ⟨far_cell HDG.out hHeld4.out.1 _ _, far_lt hHeld4.out.2 _ _⟩) (fun hHeld5 => ?_)
     clear hK K hHeld4
     try simp only [Act.put, LsA, LsB, LsC, LsD, LsE, LsF]
     refine wpAnyH_done (by kernel_rfl) ?_ _
     go_wp2_with fail
     obtain ⟨hfin, hst⟩ := H3.out.mid HG.out.2.1 (f.d ++ f.l) []
     refine bodyPost_ret (results_tmp rfl _ _ _) rfl ?_
     simp only [RfP, syncS, onFile, HO.out, HG.out.1, HQ.out, Bool.false_eq_true, if_false]
     refine ⟨rfl, S, ⟨some ⟨g, off, none⟩, cap, ?_⟩, H2.out.2.trans hst.drew⟩
     rw [HG.out.2.1, ← HG.out.2.2.1, emod_mid (by rw [← HG.out.2.1]; exact HR.out)]
     have := hfin.step ((Step.refl [] _).drew) (by simp)
     rw [← HQ.out]
     exact this
    ·skip
     go_simp
     skip
     go_wp2_with fail
     refine hK.out _ _ (hHeld) (fun hHeld2 => ?_)
     clear hK K hHeld
     try simp only [Act.put, LsA, LsB, LsC, LsD, LsE, LsF]
     refine wpAnyH_ready (rs := [17]) (by kernel_rfl) (by simp) ?_
     refine AllReadyH.cons rfl (fun K hK => ?_) AllReadyH.nil
     go_simp
     skip
     go_wp2_with fail
     refine hK.out _ _ (hHeld2) (fun hHeld3 => ?_)
     clear hK K hHeld2
     try simp only [Act.put, LsA, LsB, LsC, LsD, LsE, LsF]
     refine wpAnyH_take (i := 26) (v := ?_) rfl (by kernel_rfl) (by kernel_rfl) (by kernel_rfl) (fun _ _ _ h => h) (Or.inl ⟨by rfl, ?_⟩) hHeld3 ?_
     rotate_left
     ·intro w hSw1
      try dsimp only at hSw1
      go_simp
      try (with_reducible rfl)
     try simp only [Act.put, LsA, LsB, LsC, LsD, LsE, LsF]
     refine wpAnyH_take (i := 27) (v := ?_) rfl (by kernel_rfl) (by kernel_rfl) (by kernel_rfl) (fun _ _ _ h => h) (Or.inl ⟨by rfl, ?_⟩) hHeld3 ?_
     rotate_left
     ·intro w hSw1
      try dsimp only at hSw1
      go_simp
      try (with_reducible rfl)
     try simp only [Act.put, LsA, LsB, LsC, LsD, LsE, LsF]
     refine wpAnyH_take (i := 28) (v := ?_) rfl (by kernel_rfl) (by kernel_rfl) (by kernel_rfl) (fun _ _ _ h => h) (Or.inl ⟨by rfl, ?_⟩) hHeld3 ?_
     rotate_left
     ·intro w hSw1
      try dsimp only at hSw1
      go_simp
      try (with_reducible rfl)
     try simp only [Act.put, LsA, LsB, LsC, LsD, LsE, LsF]
     refine wpAnyH_ready (rs := [29]) (by kernel_rfl) (by simp) ?_
     refine AllReadyH.cons rfl (fun K hK => ?_) AllReadyH.nil
     go_simp
     skip
     go_wp2_with fail
     refine hK.out _ _ (Lib.hid ⟨far_cell HDG.out hHeld3.out.1 _ _, far_lt hHeld3.out.2 _ _⟩) (fun hHeld4 => ?_)
     clear hK K hHeld3
     try simp only [Act.put, LsA, LsB, LsC, LsD, LsE, LsF]
     refine wpAnyH_take (i := 30) (v := ?_) rfl (by kernel_rfl) (by kernel_rfl) (by kernel_rfl) (fun _ _ _ h => h) (Or.inl ⟨by rfl, ?_⟩) hHeld4 ?_
     rotate_left
     ·intro w hSw1
      try dsimp only at hSw1
      go_simp
      try (with_reducible rfl)
     try simp only [Act.put, LsA, LsB, LsC, LsD, LsE, LsF]
     refine wpAnyH_take (i := 31) (v := ?_) rfl (by kernel_rfl) (by kernel_rfl) (by kernel_rfl) (fun _ _ _ h => h) (Or.inl ⟨by rfl, ?_⟩) hHeld4 ?_
     rotate_left
     ·intro w hSw1
      try dsimp only at hSw1
      go_simp
      try (with_reducible rfl)
     try simp only [Act.put, LsA, LsB, LsC, LsD, LsE, LsF]
     refine wpAnyH_ready (rs := [32]) (by kernel_rfl) (by simp) ?_
     refine AllReadyH.cons rfl (fun K hK => ?_) AllReadyH.nil
     go_simp
     skip
     go_wp2_with fail
     refine hK.out _ _ (Lib.hid ⟨far_cell HDG.out hHeld4.out.1 _ _, far_lt hHeld4.out.2 _ _⟩) (fun hHeld5 => ?_)
     clear hK K hHeld4
     try simp only [Act.put, LsA, LsB, LsC, LsD, LsE, LsF]
     refine wpAnyH_done (by kernel_rfl) ?_ _
     go_wp2_with fail
     obtain ⟨hfin, hst⟩ := H3.out.mid HG.out.2.1 (f.d ++ f.l) []
     refine bodyPost_ret (results_tmp rfl _ _ _) rfl ?_
     simp only [RfP, syncS, onFile, HO.out, HG.out.1, HQ.out, Bool.false_eq_true, if_false]
     refine ⟨rfl, S, ⟨some ⟨g, off, none⟩, cap, ?_⟩, H2.out.2.trans hst.drew⟩
     rw [HG.out.2.1, ← HG.out.2.2.1, emod_mid (by rw [← HG.out.2.1]; exact HR.out)]
     have := hfin.step ((Step.refl [] _).drew) (by simp)
     rw [← HQ.out]
     exact this

set_option maxHeartbeats 1000000 in
theorem rcut_any (x : List UInt8) (k : Int) (w : World) (S : List Nat) (d : Nat) (s : St) (h : Rf w S d s) (hB : StB s) (hr : ERis s.E) : Calls Tryz.prog 19 #[.pointer (some ⟨d, 0, none⟩), Str x, .int .i64 k] w (RfP (cutS s x k) S d w) := by
 have HR := Lib.hid hr
 clear hr

 obtain ⟨a, cap, h⟩ := h
 have c3 := h.blk.cell 3
 simp only [List.getElem?_toArray, List.getElem?_cons_zero, List.getElem?_cons_succ] at c3
 have hat := rat_any x w S d s ⟨a, cap, h⟩ hB
 have HF := Lib.hid hat
 have HB := Lib.hid (And.intro h hB)
 clear hat h hB
 go_enter Tryz.func19, Tryz.ntmps19
 go_wp2_with fail
 refine HF.out.mono ?_
 rintro e w1 ⟨rfl, rfl⟩
 cases ho : s.off with
 | true =>
  have HO := Lib.hid ho
  rw [ho] at c3
  clear ho
  go_wp2_with fail
  refine bodyPost_ret (results_tmp rfl _ _ _) rfl ?_
  simp only [RfP, cutS, HO.out, Bool.false_eq_true, if_false, if_true]
  exact ⟨rfl, S, ⟨a, cap, HB.out.1⟩, Step.refl _ _⟩
 | false =>
  have HO := Lib.hid ho
  rw [ho] at c3
  clear ho
  cases hg : eget s.E x with
  | none =>
   rw [atI_miss hg]
   have HG := Lib.hid hg
   clear hg
   go_wp2_with fail
   refine bodyPost_ret (results_tmp rfl _ _ _) rfl ?_
   simp only [RfP, cutS, HO.out, HG.out, Bool.false_eq_true, if_false, if_true]
   exact ⟨rfl, S, ⟨a, cap, HB.out.1⟩, Step.refl _ _⟩
  | some f =>
   obtain ⟨A, B, hE, hfn, hai, hel⟩ := atI_split hg
   rw [hai]
   have HG := Lib.hid (And.intro hg (And.intro hE (And.intro hfn hel)))
   have hAl : A.length < 1099511627776 := by
    have h1 := HB.out.2.len
    rw [hE] at h1
    simp at h1
    omega
   have hneg : decide ((A.length : Int) < 0) = false := decide_eq_false (by omega)
   clear hg hE hfn hai hel
   have hAE : A.length < s.E.length := by rw [HG.out.2.1]; simp
   have hAi : (A.length : Int) < (s.E.length : Int) := by omega
   obtain ⟨g, off, hs1⟩ := (HB.out.1.row).some_of_pos (by omega)
   have hr := HB.out.1.row.rd
   rw [hs1] at hr
   obtain ⟨z0, z1, z2⟩ := rd_en hr HG.out.2.2.2
   have gl : g < w.heap.size := by have := World.block_lt_of_cell? _ _ z1; simpa using this
   have c0 := HB.out.1.blk.cell 0
   simp only [List.getElem?_toArray, List.getElem?_cons_zero, List.getElem?_cons_succ] at c0
   have hful : f.d.length + f.l.length ≤ 8388608 := by
    have := used_mem (E := s.E) (f := f) (by rw [HG.out.2.1]; simp)
    have := HB.out.2.used
    omega
   have hcat : f.d.length + f.l.length ≤ 9223372036854775807 := by omega
   rw [hs1] at c0
   have HHS := Lib.hid hs1
   clear z0 hr hs1
   go_upto_region 6 with fail
   go_quiet (fail)
   have H0 : Hid (Rfm (w.drewN nq) S d a cap s ∧ Step [] [] w (w.drewN nq)) := Lib.hid ⟨HB.out.1.step ((Step.refl [] w).drewN nq) (by simp), (Step.refl [] w).drewN nq⟩
   obtain ⟨W0, hW0⟩ : ∃ W0, W0 = w.drewN nq := ⟨_, rfl⟩
   rw [← hW0] at H0 ⊢
   clear hW0 z1 z2 gl c0 hcat c3
   obtain ⟨al, hal⟩ : ∃ al, al = f.d ++ f.l := ⟨_, rfl⟩
   have hall : al.length = f.d.length + f.l.length := by rw [hal, List.length_append]
   rw [← hal]
   have HAL := Lib.hid hal
   have HLL := Lib.hid hall
   clear hal hall
   by_cases hk0 : k < 0
   ·have hkd : decide (k < 0) = true := decide_eq_true hk0
    have HK : Hid (k < 0 ∨ ((f.d.length + f.l.length : Nat) : Int) < k) := Lib.hid (.inl hk0)
    clear hk0
    go_wp2_with fail
    refine bodyPost_ret (results_tmp rfl _ _ _) rfl ?_
    simp only [RfP, cutS, HO.out, HG.out.1, Bool.false_eq_true, if_false]
    rw [if_pos HK.out]
    exact ⟨rfl, S, ⟨a, cap, H0.out.1⟩, H0.out.2.keep S⟩
   obtain ⟨j, rfl⟩ : ∃ j : Nat, k = j := ⟨k.toNat, by omega⟩
   have hkd : decide ((j : Int) < 0) = false := decide_eq_false hk0
   by_cases hk1 : al.length < j
   ·have hkd1 : decide (al.length < j) = true := decide_eq_true hk1
    have hkd2 : decide ((al.length : Int) < (j : Int)) = true := decide_eq_true (by omega)
    have HK : Hid ((j : Int) < 0 ∨ ((f.d.length + f.l.length : Nat) : Int) < (j : Int)) := Lib.hid (.inr (by have := HLL.out; omega))
    clear hk1 hk0
    go_wp2_with fail
    refine bodyPost_ret (results_tmp rfl _ _ _) rfl ?_
    simp only [RfP, cutS, HO.out, HG.out.1, Bool.false_eq_true, if_false]
    rw [if_pos HK.out]
    exact ⟨rfl, S, ⟨a, cap, H0.out.1⟩, H0.out.2.keep S⟩
   have hkd1 : decide (al.length < j) = false := decide_eq_false hk1
   have hkd2 : decide ((al.length : Int) < (j : Int)) = false := decide_eq_false (by omega)
   have HK : Hid (¬ ((j : Int) < 0 ∨ ((f.d.length + f.l.length : Nat) : Int) < (j : Int))) := Lib.hid (by have := HLL.out; omega)
   have HJ : Hid (j ≤ al.length) := Lib.hid (by omega)
   clear hk1 hk0
   go_wp2_with fail
   refine (rburns_any W0 S d cap a s H0.out.1 HB.out.2.fuse.2).mono ?_
   rintro e w2 ⟨rfl, hb2, hs2⟩
   have hw2 : Step S S w w2 := (H0.out.2.keep S).trans (hs2.wide (by intro k hk; simp only [List.mem_singleton] at hk; rw [hk, HB.out.1.hS]; simp) (by intro k hk; exact .inl hk))
   have H2 := Lib.hid (And.intro hb2 hw2)
   clear hb2 hs2 hw2
   cases hbo : s.burn.off with
   | true =>
    have HQ := Lib.hid hbo
    clear hbo
    go_wp2_with fail
    refine bodyPost_ret (results_tmp rfl _ _ _) rfl ?_
    simp only [RfP, cutS, HO.out, HG.out.1, Bool.false_eq_true, if_false]
    rw [if_neg HK.out, if_pos HQ.out]
    exact ⟨rfl, S, ⟨a, cap, H2.out.1⟩, H2.out.2⟩
   | false =>
    have HQ := Lib.hid hbo
    clear hbo
    have hs1 := HHS.out
    have H3 : Hid (Rfm w2 S d (some ⟨g, off, none⟩) cap s.burn) := Lib.hid (by rw [← hs1]; exact H2.out.1)
    have hr := H3.out.row.rd
    have hr2 := rd_en (E := s.E) hr HG.out.2.2.2
    clear hs1 hr
    have c0 := H3.out.blk.cell 0
    simp only [List.getElem?_toArray, List.getElem?_cons_zero, List.getElem?_cons_succ] at c0
    rw [show s.burn.E = s.E from rfl] at c0
    obtain ⟨z0, z1, z2⟩ := hr2
    have gl : g < w2.heap.size := by have := World.block_lt_of_cell? _ _ z1; simpa using this
    have y1 := (H3.out.row.cell rfl (A.length * 3 + 1) (by show _ < s.E.length * 3; omega)).2.1
    have y2 := (H3.out.row.cell rfl (A.length * 3 + 2) (by show _ < s.E.length * 3; omega)).2.1
    rw [← Nat.add_assoc] at y1 y2
    have HDG : Hid (d ≠ g) := Lib.hid (fun e => H3.out.ne (by simp [blks, e]))
    clear z0
    have hjl := HJ.out
    have hji : (j : Int) ≤ (al.length : Int) := by omega
    by_cases hjd : j ≤ f.d.length
    ·have hmin : min (j : Int) (f.d.length : Int) = (j : Int) := by omega
     have HM := Lib.hid hjd
     clear hjd
     go_upto_region 12 with fail
     have HC : Hid (w2.drew.cell? ⟨d, 0, none⟩ = some (.slice (some ⟨g, off, none⟩) s.E.length cap) ∧ g < w2.drew.heap.size) := Lib.hid ⟨c0, gl⟩
     refine wp_region_held_drew (S := fun W => Hid (W.cell? ⟨d, 0, none⟩ = some (.slice (some ⟨g, off, none⟩) s.E.length cap) ∧ g < W.heap.size)) (by kernel_rfl) (HC) (fun hHeld => ?_)
     refine wpAnyH_take (i := 0) (v := ?_) rfl (by kernel_rfl) (by kernel_rfl) (by kernel_rfl) (fun _ _ _ h => h) (Or.inl ⟨by rfl, ?_⟩) hHeld ?_
     rotate_left
     ·intro w hSw1
      try dsimp only at hSw1
      go_simp
      try (with_reducible rfl)
     try simp only [Act.put, LsA, LsB, LsC, LsD, LsE, LsF]
     refine wpAnyH_take (i := 1) (v := ?_) rfl (by kernel_rfl) (by kernel_rfl) (by kernel_rfl) (fun _ _ _ h => h) (Or.inl ⟨by rfl, ?_⟩) hHeld ?_
     rotate_left
     ·intro w hSw1
      try dsimp only at hSw1
      go_simp
      try (with_reducible rfl)
     try simp only [Act.put, LsA, LsB, LsC, LsD, LsE, LsF]
     refine wpAnyH_take (i := 2) (v := ?_) rfl (by kernel_rfl) (by kernel_rfl) (by kernel_rfl) (fun _ _ _ h => h) (Or.inl ⟨by rfl, ?_⟩) hHeld ?_
     rotate_left
     ·intro w hSw1
      try dsimp only at hSw1
      go_simp
      try (with_reducible rfl)
     try simp only [Act.put, LsA, LsB, LsC, LsD, LsE, LsF]
     refine wpAnyH_take (i := 3) (v := ?_) rfl (by kernel_rfl) (by kernel_rfl) (by kernel_rfl) (fun _ _ _ h => h) (Or.inl ⟨by rfl, ?_⟩) hHeld ?_
     rotate_left
     ·intro w hSw1
      have t0 := hSw1.out.1
      have tl := hSw1.out.2
      go_simp
      try (with_reducible rfl)
     try simp only [Act.put, LsA, LsB, LsC, LsD, LsE, LsF]
     refine wpAnyH_take (i := 4) (v := ?_) rfl (by kernel_rfl) (by kernel_rfl) (by kernel_rfl) (fun _ _ _ h => h) (Or.inl ⟨by rfl, ?_⟩) hHeld ?_
     rotate_left
     ·intro w hSw1
      try dsimp only at hSw1
      go_simp
      try (with_reducible rfl)
     try simp only [Act.put, LsA, LsB, LsC, LsD, LsE, LsF]
     refine wpAnyH_take (i := 5) (v := ?_) rfl (by kernel_rfl) (by kernel_rfl) (by kernel_rfl) (fun _ _ _ h => h) (Or.inl ⟨by rfl, ?_⟩) hHeld ?_
     rotate_left
     ·intro w hSw1
      try dsimp only at hSw1
      go_simp
      try (with_reducible rfl)
     try simp only [Act.put, LsA, LsB, LsC, LsD, LsE, LsF]
     refine wpAnyH_take (i := 6) (v := ?_) rfl (by kernel_rfl) (by kernel_rfl) (by kernel_rfl) (fun _ _ _ h => h) (Or.inl ⟨by rfl, ?_⟩) hHeld ?_
     rotate_left
     ·intro w hSw1
      try dsimp only at hSw1
      go_simp
      try (with_reducible rfl)
     try simp only [Act.put, LsA, LsB, LsC, LsD, LsE, LsF]
     refine wpAnyH_take (i := 7) (v := ?_) rfl (by kernel_rfl) (by kernel_rfl) (by kernel_rfl) (fun _ _ _ h => h) (Or.inl ⟨by rfl, ?_⟩) hHeld ?_
     rotate_left
     ·intro w hSw1
      try dsimp only at hSw1
      go_simp
      try (with_reducible rfl)
     try simp only [Act.put, LsA, LsB, LsC, LsD, LsE, LsF]
     refine wpAnyH_take (i := 8) (v := ?_) rfl (by kernel_rfl) (by kernel_rfl) (by kernel_rfl) (fun _ _ _ h => h) (Or.inl ⟨by rfl, ?_⟩) hHeld ?_
     rotate_left
     ·intro w hSw1
      have t0 := hSw1.out.1
      have tl := hSw1.out.2
      go_simp
      try (with_reducible rfl)
     try simp only [Act.put, LsA, LsB, LsC, LsD, LsE, LsF]
     refine wpAnyH_take (i := 9) (v := ?_) rfl (by kernel_rfl) (by kernel_rfl) (by kernel_rfl) (fun _ _ _ h => h) (Or.inl ⟨by rfl, ?_⟩) hHeld ?_
     rotate_left
     ·intro w hSw1
      try dsimp only at hSw1
      go_simp
      try (with_reducible rfl)
     try simp only [Act.put, LsA, LsB, LsC, LsD, LsE, LsF]
     refine wpAnyH_take (i := 10) (v := ?_) rfl (by kernel_rfl) (by kernel_rfl) (by kernel_rfl) (fun _ _ _ h => h) (Or.inl ⟨by rfl, ?_⟩) hHeld ?_
     rotate_left
     ·intro w hSw1
      try dsimp only at hSw1
      go_simp
      try (with_reducible rfl)
     try simp only [Act.put, LsA, LsB, LsC, LsD, LsE, LsF]
     refine wpAnyH_take (i := 11) (v := ?_) rfl (by kernel_rfl) (by kernel_rfl) (by kernel_rfl) (fun _ _ _ h => h) (Or.inl ⟨by rfl, ?_⟩) hHeld ?_
     rotate_left
     ·intro w hSw1
      try dsimp only at hSw1
      go_simp
      try (with_reducible rfl)
     try simp only [Act.put, LsA, LsB, LsC, LsD, LsE, LsF]
     refine wpAnyH_take (i := 12) (v := ?_) rfl (by kernel_rfl) (by kernel_rfl) (by kernel_rfl) (fun _ _ _ h => h) (Or.inl ⟨by rfl, ?_⟩) hHeld ?_
     rotate_left
     ·intro w hSw1
      try dsimp only at hSw1
      go_simp
      try (with_reducible rfl)
     try simp only [Act.put, LsA, LsB, LsC, LsD, LsE, LsF]
     refine wpAnyH_take (i := 13) (v := ?_) rfl (by kernel_rfl) (by kernel_rfl) (by kernel_rfl) (fun _ _ _ h => h) (Or.inl ⟨by rfl, ?_⟩) hHeld ?_
     rotate_left
     ·intro w hSw1
      try dsimp only at hSw1
      go_simp
      try (with_reducible rfl)
     try simp only [Act.put, LsA, LsB, LsC, LsD, LsE, LsF]
     refine wpAnyH_take (i := 14) (v := ?_) rfl (by kernel_rfl) (by kernel_rfl) (by kernel_rfl) (fun _ _ _ h => h) (Or.inl ⟨by rfl, ?_⟩) hHeld ?_
     rotate_left
     ·intro w hSw1
      try dsimp only at hSw1
      go_simp
      try (with_reducible rfl)
     try simp only [Act.put, LsA, LsB, LsC, LsD, LsE, LsF]
     refine wpAnyH_take (i := 15) (v := ?_) rfl (by kernel_rfl) (by kernel_rfl) (by kernel_rfl) (fun _ _ _ h => h) (Or.inl ⟨by rfl, ?_⟩) hHeld ?_
     rotate_left
     ·intro w hSw1
      try dsimp only at hSw1
      go_simp
      try (with_reducible rfl)
     try simp only [Act.put, LsA, LsB, LsC, LsD, LsE, LsF]
     refine wpAnyH_take (i := 16) (v := ?_) rfl (by kernel_rfl) (by kernel_rfl) (by kernel_rfl) (fun _ _ _ h => h) (Or.inl ⟨by rfl, ?_⟩) hHeld ?_
     rotate_left
     ·intro w hSw1
      try dsimp only at hSw1
      go_simp
      try (with_reducible rfl)
     try simp only [Act.put, LsA, LsB, LsC, LsD, LsE, LsF]
     refine wpAnyH_take (i := 17) (v := ?_) rfl (by kernel_rfl) (by kernel_rfl) (by kernel_rfl) (fun _ _ _ h => h) (Or.inl ⟨by rfl, ?_⟩) hHeld ?_
     rotate_left
     ·intro w hSw1
      try dsimp only at hSw1
      go_simp
      try (with_reducible rfl)
     try simp only [Act.put, LsA, LsB, LsC, LsD, LsE, LsF]
     refine wpAnyH_take (i := 18) (v := ?_) rfl (by kernel_rfl) (by kernel_rfl) (by kernel_rfl) (fun _ _ _ h => h) (Or.inl ⟨by rfl, ?_⟩) hHeld ?_
     rotate_left
     ·intro w hSw1
      try dsimp only at hSw1
      go_simp
      try (with_reducible rfl)
     try simp only [Act.put, LsA, LsB, LsC, LsD, LsE, LsF]
     refine wpAnyH_ready (rs := [19]) (by kernel_rfl) (by simp) ?_
     refine AllReadyH.cons rfl (fun K hK => ?_) AllReadyH.nil
     go_simp
     skip
     go_wp2_with fail
     refine hK.out _ _ (Lib.hid ⟨far_cell HDG.out hHeld.out.1 _ _, far_lt hHeld.out.2 _ _⟩) (fun hHeld2 => ?_)
     clear hK K hHeld
     try simp only [Act.put, LsA, LsB, LsC, LsD, LsE, LsF]
     refine wpAnyH_take (i := 20) (v := ?_) rfl (by kernel_rfl) (by kernel_rfl) (by kernel_rfl) (fun _ _ _ h => h) (Or.inl ⟨by rfl, ?_⟩) hHeld2 ?_
     rotate_left
     ·intro w hSw1
      try dsimp only at hSw1
      go_simp
      try (with_reducible rfl)
     try simp only [Act.put, LsA, LsB, LsC, LsD, LsE, LsF]
     refine wpAnyH_take (i := 21) (v := ?_) rfl (by kernel_rfl) (by kernel_rfl) (by kernel_rfl) (fun _ _ _ h => h) (Or.inl ⟨by rfl, ?_⟩) hHeld2 ?_
     rotate_left
     ·intro w hSw1
      try dsimp only at hSw1
      go_simp
      try (with_reducible rfl)
     try simp only [Act.put, LsA, LsB, LsC, LsD, LsE, LsF]
     refine wpAnyH_ready (rs := [22]) (by kernel_rfl) (by simp) ?_
     refine AllReadyH.cons rfl (fun K hK => ?_) AllReadyH.nil
     go_simp
     skip
     go_wp2_with fail
     refine hK.out _ _ (Lib.hid ⟨far_cell HDG.out hHeld2.out.1 _ _, far_lt hHeld2.out.2 _ _⟩) (fun hHeld3 => ?_)
     clear hK K hHeld2
     try simp only [Act.put, LsA, LsB, LsC, LsD, LsE, LsF]
     refine wpAnyH_done (by kernel_rfl) ?_ _
     go_wp2_with fail
     obtain ⟨hfin, hst⟩ := H3.out.mid HG.out.2.1 (al.take j) ([])
     have hcf : cutF ((j : Int)).toNat f = ⟨f.n, al.take j, []⟩ := by
      rw [Int.toNat_natCast, cutF, HAL.out]
      rw [if_pos HM.out, List.take_append_of_le_length HM.out]

     refine bodyPost_ret (results_tmp rfl _ _ _) rfl ?_
     simp only [RfP, cutS, HO.out, HG.out.1, Bool.false_eq_true, if_false]
     rw [if_neg HK.out, if_neg (by rw [HQ.out]; simp)]
     refine ⟨rfl, S, ⟨some ⟨g, off, none⟩, cap, ?_⟩, H2.out.2.trans hst.drew⟩
     rw [HG.out.2.1, ← HG.out.2.2.1, emod_mid (by rw [← HG.out.2.1]; exact HR.out), hcf]
     exact hfin.step ((Step.refl [] _).drew) (by simp)
    ·obtain ⟨i, hi⟩ : ∃ i, j = f.d.length + i := ⟨j - f.d.length, by omega⟩
     have hmin : min (j : Int) (f.d.length : Int) = (f.d.length : Int) := by omega
     have HM := Lib.hid (And.intro hjd hi)
     have hdj : (f.d.length : Int) ≤ (j : Int) := by omega
     have hdj2 : f.d.length ≤ j := by omega
     have hda : f.d.length ≤ al.length := by omega
     clear hjd hi
     go_upto_region 12 with fail
     have HC : Hid (w2.drew.cell? ⟨d, 0, none⟩ = some (.slice (some ⟨g, off, none⟩) s.E.length cap) ∧ g < w2.drew.heap.size) := Lib.hid ⟨c0, gl⟩
     refine wp_region_held_drew (S := fun W => Hid (W.cell? ⟨d, 0, none⟩ = some (.slice (some ⟨g, off, none⟩) s.E.length cap) ∧ g < W.heap.size)) (by kernel_rfl) (HC) (fun hHeld => ?_)
     refine wpAnyH_take (i := 0) (v := ?_) rfl (by kernel_rfl) (by kernel_rfl) (by kernel_rfl) (fun _ _ _ h => h) (Or.inl ⟨by rfl, ?_⟩) hHeld ?_
     rotate_left
     ·intro w hSw1
      try dsimp only at hSw1
      go_simp
      try (with_reducible rfl)
     try simp only [Act.put, LsA, LsB, LsC, LsD, LsE, LsF]
     refine wpAnyH_take (i := 1) (v := ?_) rfl (by kernel_rfl) (by kernel_rfl) (by kernel_rfl) (fun _ _ _ h => h) (Or.inl ⟨by rfl, ?_⟩) hHeld ?_
     rotate_left
     ·intro w hSw1
      try dsimp only at hSw1
      go_simp
      try (with_reducible rfl)
     try simp only [Act.put, LsA, LsB, LsC, LsD, LsE, LsF]
     refine wpAnyH_take (i := 2) (v := ?_) rfl (by kernel_rfl) (by kernel_rfl) (by kernel_rfl) (fun _ _ _ h => h) (Or.inl ⟨by rfl, ?_⟩) hHeld ?_
     rotate_left
     ·intro w hSw1
      try dsimp only at hSw1
      go_simp
      try (with_reducible rfl)
     try simp only [Act.put, LsA, LsB, LsC, LsD, LsE, LsF]
     refine wpAnyH_take (i := 3) (v := ?_) rfl (by kernel_rfl) (by kernel_rfl) (by kernel_rfl) (fun _ _ _ h => h) (Or.inl ⟨by rfl, ?_⟩) hHeld ?_
     rotate_left
     ·intro w hSw1
      have t0 := hSw1.out.1
      have tl := hSw1.out.2
      go_simp
      try (with_reducible rfl)
     try simp only [Act.put, LsA, LsB, LsC, LsD, LsE, LsF]
     refine wpAnyH_take (i := 4) (v := ?_) rfl (by kernel_rfl) (by kernel_rfl) (by kernel_rfl) (fun _ _ _ h => h) (Or.inl ⟨by rfl, ?_⟩) hHeld ?_
     rotate_left
     ·intro w hSw1
      try dsimp only at hSw1
      go_simp
      try (with_reducible rfl)
     try simp only [Act.put, LsA, LsB, LsC, LsD, LsE, LsF]
     refine wpAnyH_take (i := 5) (v := ?_) rfl (by kernel_rfl) (by kernel_rfl) (by kernel_rfl) (fun _ _ _ h => h) (Or.inl ⟨by rfl, ?_⟩) hHeld ?_
     rotate_left
     ·intro w hSw1
      try dsimp only at hSw1
      go_simp
      try (with_reducible rfl)
     try simp only [Act.put, LsA, LsB, LsC, LsD, LsE, LsF]
     refine wpAnyH_take (i := 6) (v := ?_) rfl (by kernel_rfl) (by kernel_rfl) (by kernel_rfl) (fun _ _ _ h => h) (Or.inl ⟨by rfl, ?_⟩) hHeld ?_
     rotate_left
     ·intro w hSw1
      try dsimp only at hSw1
      go_simp
      try (with_reducible rfl)
     try simp only [Act.put, LsA, LsB, LsC, LsD, LsE, LsF]
     refine wpAnyH_take (i := 7) (v := ?_) rfl (by kernel_rfl) (by kernel_rfl) (by kernel_rfl) (fun _ _ _ h => h) (Or.inl ⟨by rfl, ?_⟩) hHeld ?_
     rotate_left
     ·intro w hSw1
      try dsimp only at hSw1
      go_simp
      try (with_reducible rfl)
     try simp only [Act.put, LsA, LsB, LsC, LsD, LsE, LsF]
     refine wpAnyH_take (i := 8) (v := ?_) rfl (by kernel_rfl) (by kernel_rfl) (by kernel_rfl) (fun _ _ _ h => h) (Or.inl ⟨by rfl, ?_⟩) hHeld ?_
     rotate_left
     ·intro w hSw1
      have t0 := hSw1.out.1
      have tl := hSw1.out.2
      go_simp
      try (with_reducible rfl)
     try simp only [Act.put, LsA, LsB, LsC, LsD, LsE, LsF]
     refine wpAnyH_take (i := 9) (v := ?_) rfl (by kernel_rfl) (by kernel_rfl) (by kernel_rfl) (fun _ _ _ h => h) (Or.inl ⟨by rfl, ?_⟩) hHeld ?_
     rotate_left
     ·intro w hSw1
      try dsimp only at hSw1
      go_simp
      try (with_reducible rfl)
     try simp only [Act.put, LsA, LsB, LsC, LsD, LsE, LsF]
     refine wpAnyH_take (i := 10) (v := ?_) rfl (by kernel_rfl) (by kernel_rfl) (by kernel_rfl) (fun _ _ _ h => h) (Or.inl ⟨by rfl, ?_⟩) hHeld ?_
     rotate_left
     ·intro w hSw1
      try dsimp only at hSw1
      go_simp
      try (with_reducible rfl)
     try simp only [Act.put, LsA, LsB, LsC, LsD, LsE, LsF]
     refine wpAnyH_take (i := 11) (v := ?_) rfl (by kernel_rfl) (by kernel_rfl) (by kernel_rfl) (fun _ _ _ h => h) (Or.inl ⟨by rfl, ?_⟩) hHeld ?_
     rotate_left
     ·intro w hSw1
      try dsimp only at hSw1
      go_simp
      try (with_reducible rfl)
     try simp only [Act.put, LsA, LsB, LsC, LsD, LsE, LsF]
     refine wpAnyH_take (i := 12) (v := ?_) rfl (by kernel_rfl) (by kernel_rfl) (by kernel_rfl) (fun _ _ _ h => h) (Or.inl ⟨by rfl, ?_⟩) hHeld ?_
     rotate_left
     ·intro w hSw1
      try dsimp only at hSw1
      go_simp
      try (with_reducible rfl)
     try simp only [Act.put, LsA, LsB, LsC, LsD, LsE, LsF]
     refine wpAnyH_take (i := 13) (v := ?_) rfl (by kernel_rfl) (by kernel_rfl) (by kernel_rfl) (fun _ _ _ h => h) (Or.inl ⟨by rfl, ?_⟩) hHeld ?_
     rotate_left
     ·intro w hSw1
      try dsimp only at hSw1
      go_simp
      try (with_reducible rfl)
     try simp only [Act.put, LsA, LsB, LsC, LsD, LsE, LsF]
     refine wpAnyH_take (i := 14) (v := ?_) rfl (by kernel_rfl) (by kernel_rfl) (by kernel_rfl) (fun _ _ _ h => h) (Or.inl ⟨by rfl, ?_⟩) hHeld ?_
     rotate_left
     ·intro w hSw1
      try dsimp only at hSw1
      go_simp
      try (with_reducible rfl)
     try simp only [Act.put, LsA, LsB, LsC, LsD, LsE, LsF]
     refine wpAnyH_take (i := 15) (v := ?_) rfl (by kernel_rfl) (by kernel_rfl) (by kernel_rfl) (fun _ _ _ h => h) (Or.inl ⟨by rfl, ?_⟩) hHeld ?_
     rotate_left
     ·intro w hSw1
      try dsimp only at hSw1
      go_simp
      try (with_reducible rfl)
     try simp only [Act.put, LsA, LsB, LsC, LsD, LsE, LsF]
     refine wpAnyH_take (i := 16) (v := ?_) rfl (by kernel_rfl) (by kernel_rfl) (by kernel_rfl) (fun _ _ _ h => h) (Or.inl ⟨by rfl, ?_⟩) hHeld ?_
     rotate_left
     ·intro w hSw1
      try dsimp only at hSw1
      go_simp
      try (with_reducible rfl)
     try simp only [Act.put, LsA, LsB, LsC, LsD, LsE, LsF]
     refine wpAnyH_take (i := 17) (v := ?_) rfl (by kernel_rfl) (by kernel_rfl) (by kernel_rfl) (fun _ _ _ h => h) (Or.inl ⟨by rfl, ?_⟩) hHeld ?_
     rotate_left
     ·intro w hSw1
      try dsimp only at hSw1
      go_simp
      try (with_reducible rfl)
     try simp only [Act.put, LsA, LsB, LsC, LsD, LsE, LsF]
     refine wpAnyH_take (i := 18) (v := ?_) rfl (by kernel_rfl) (by kernel_rfl) (by kernel_rfl) (fun _ _ _ h => h) (Or.inl ⟨by rfl, ?_⟩) hHeld ?_
     rotate_left
     ·intro w hSw1
      try dsimp only at hSw1
      go_simp
      try (with_reducible rfl)
     try simp only [Act.put, LsA, LsB, LsC, LsD, LsE, LsF]
     refine wpAnyH_ready (rs := [19]) (by kernel_rfl) (by simp) ?_
     refine AllReadyH.cons rfl (fun K hK => ?_) AllReadyH.nil
     go_simp
     skip
     go_wp2_with fail
     refine hK.out _ _ (Lib.hid ⟨far_cell HDG.out hHeld.out.1 _ _, far_lt hHeld.out.2 _ _⟩) (fun hHeld2 => ?_)
     clear hK K hHeld
     try simp only [Act.put, LsA, LsB, LsC, LsD, LsE, LsF]
     refine wpAnyH_take (i := 20) (v := ?_) rfl (by kernel_rfl) (by kernel_rfl) (by kernel_rfl) (fun _ _ _ h => h) (Or.inl ⟨by rfl, ?_⟩) hHeld2 ?_
     rotate_left
     ·intro w hSw1
      try dsimp only at hSw1
      go_simp
      try (with_reducible rfl)
     try simp only [Act.put, LsA, LsB, LsC, LsD, LsE, LsF]
     refine wpAnyH_take (i := 21) (v := ?_) rfl (by kernel_rfl) (by kernel_rfl) (by kernel_rfl) (fun _ _ _ h => h) (Or.inl ⟨by rfl, ?_⟩) hHeld2 ?_
     rotate_left
     ·intro w hSw1
      try dsimp only at hSw1
      go_simp
      try (with_reducible rfl)
     try simp only [Act.put, LsA, LsB, LsC, LsD, LsE, LsF]
     refine wpAnyH_ready (rs := [22]) (by kernel_rfl) (by simp) ?_
     refine AllReadyH.cons rfl (fun K hK => ?_) AllReadyH.nil
     go_simp
     skip
     go_wp2_with fail
     refine hK.out _ _ (Lib.hid ⟨far_cell HDG.out hHeld2.out.1 _ _, far_lt hHeld2.out.2 _ _⟩) (fun hHeld3 => ?_)
     clear hK K hHeld2
     try simp only [Act.put, LsA, LsB, LsC, LsD, LsE, LsF]
     refine wpAnyH_done (by kernel_rfl) ?_ _
     go_wp2_with fail
     obtain ⟨hfin, hst⟩ := H3.out.mid HG.out.2.1 (al.take f.d.length) ((al.drop f.d.length).take (j - f.d.length))
     have hcf : cutF ((j : Int)).toNat f = ⟨f.n, al.take f.d.length, (al.drop f.d.length).take (j - f.d.length)⟩ := by
      rw [Int.toNat_natCast, cutF, HAL.out]
      rw [if_neg HM.out.1, List.take_left, List.drop_left]

     refine bodyPost_ret (results_tmp rfl _ _ _) rfl ?_
     simp only [RfP, cutS, HO.out, HG.out.1, Bool.false_eq_true, if_false]
     rw [if_neg HK.out, if_neg (by rw [HQ.out]; simp)]
     refine ⟨rfl, S, ⟨some ⟨g, off, none⟩, cap, ?_⟩, H2.out.2.trans hst.drew⟩
     rw [HG.out.2.1, ← HG.out.2.2.1, emod_mid (by rw [← HG.out.2.1]; exact HR.out), hcf]
     exact hfin.step ((Step.refl [] _).drew) (by simp)

set_option maxHeartbeats 1000000 in
theorem rremove_any (x : List UInt8) (w : World) (S : List Nat) (d : Nat) (s : St) (h : Rf w S d s) (hB : StB s) (hr : ERis s.E) : Calls Tryz.prog 35 #[.pointer (some ⟨d, 0, none⟩), Str x] w (RfP (removeS s x) S d w) := by
 have HR := Lib.hid hr
 clear hr

 obtain ⟨a, cap, h⟩ := h
 have c3 := h.blk.cell 3
 simp only [List.getElem?_toArray, List.getElem?_cons_zero, List.getElem?_cons_succ] at c3
 have hat := rat_any x w S d s ⟨a, cap, h⟩ hB
 have HF := Lib.hid hat
 have HB := Lib.hid (And.intro h hB)
 clear hat h hB
 go_enter Tryz.func35, Tryz.ntmps35
 go_wp2_with fail
 refine HF.out.mono ?_
 rintro e w1 ⟨rfl, rfl⟩
 cases ho : s.off with
 | true =>
  have HO := Lib.hid ho
  rw [ho] at c3
  clear ho
  go_wp2_with fail
  refine bodyPost_ret (results_tmp rfl _ _ _) rfl ?_
  simp only [RfP, removeS, onFile, HO.out, Bool.false_eq_true, if_false, if_true]
  exact ⟨rfl, S, ⟨a, cap, HB.out.1⟩, Step.refl _ _⟩
 | false =>
  have HO := Lib.hid ho
  rw [ho] at c3
  clear ho
  cases hg : eget s.E x with
  | none =>
   rw [atI_miss hg]
   have HG := Lib.hid hg
   clear hg
   go_wp2_with fail
   refine bodyPost_ret (results_tmp rfl _ _ _) rfl ?_
   simp only [RfP, removeS, onFile, HO.out, HG.out, Bool.false_eq_true, if_false, if_true]
   exact ⟨rfl, S, ⟨a, cap, HB.out.1⟩, Step.refl _ _⟩
  | some f =>
   obtain ⟨A, B, hE, hfn, hai, hel⟩ := atI_split hg
   rw [hai]
   have HG := Lib.hid (And.intro hg (And.intro hE (And.intro hfn hel)))
   have hAl : A.length < 1099511627776 := by
    have h1 := HB.out.2.len
    rw [hE] at h1
    simp at h1
    omega
   have hneg : decide ((A.length : Int) < 0) = false := decide_eq_false (by omega)
   clear hg hE hfn hai hel
   go_wp2_with fail
   refine (rburns_any w S d cap a s HB.out.1 HB.out.2.fuse.2).mono ?_
   rintro e w2 ⟨rfl, hb2, hs2⟩
   have hw2 : Step S S w w2 := hs2.wide (by intro k hk; simp only [List.mem_singleton] at hk; rw [hk, HB.out.1.hS]; simp) (by intro k hk; exact .inl hk)
   have H2 := Lib.hid (And.intro hb2 hw2)
   clear hb2 hs2 hw2
   cases hbo : s.burn.off with
   | true =>
    have HQ := Lib.hid hbo
    clear hbo
    go_wp2_with fail
    refine bodyPost_ret (results_tmp rfl _ _ _) rfl ?_
    simp only [RfP, removeS, onFile, HO.out, HG.out.1, HQ.out, Bool.false_eq_true, if_false, if_true]
    exact ⟨rfl, S, ⟨a, cap, H2.out.1⟩, H2.out.2⟩
   | false =>
    have HQ := Lib.hid hbo
    clear hbo
    have hAE : A.length < s.E.length := by rw [HG.out.2.1]; simp
    have hAi : (A.length : Int) < (s.E.length : Int) := by omega
    obtain ⟨g, off, hs1⟩ := (HB.out.1.row).some_of_pos (by omega)
    have HA : Hid (a = some ⟨g, off, none⟩) := Lib.hid hs1
    have H3 : Hid (Rfm w2 S d (some ⟨g, off, none⟩) cap s.burn) := Lib.hid (by rw [← hs1]; exact H2.out.1)
    clear hs1
    have c0 := H3.out.blk.cell 0
    simp only [List.getElem?_toArray, List.getElem?_cons_zero, List.getElem?_cons_succ] at c0
    rw [show s.burn.E = s.E from rfl] at c0
    have dl := H3.out.blk.lt
    have hdf := H3.out.blk.frozen 0
    have hcl := H3.out.row.le
    have hcm := H3.out.row.max
    rw [show s.burn.E = s.E from rfl] at hcl
    have hNl : s.E.length ≤ 1099511627776 := HB.out.2.len
    obtain ⟨i0, hi, hz0, hz1, hz2⟩ := info_parts Tryz.info_file
    have HI := Lib.hid (And.intro hi (And.intro hz0 (And.intro hz1 hz2)))
    clear hi hz0 hz1 hz2
    obtain ⟨N, hN⟩ : ∃ N, N = s.E.length := ⟨_, rfl⟩
    obtain ⟨j, hj⟩ : ∃ j, j = A.length := ⟨_, rfl⟩
    rw [← hN] at c0 hcl hNl hAE hAi
    rw [← hj] at hAE hAi hneg ⊢
    have HNJ := Lib.hid (And.intro hN hj)
    clear hN hj
    have hjc : (j : Int) ≤ (cap : Int) := by omega
    have hjc2 : j ≤ cap := by omega
    have HS1 : Hid (Rd (w2.alloc (.cells #[] 72)) 3 (some ⟨g, off, none⟩) j (enVs A)) := Lib.hid (by
     have h1 := (H3.out.row.rd.step0 ((Step.refl [] w2).alloc (.cells #[] 72))).take j (by show j ≤ s.E.length; rw [← HNJ.out.1]; omega)
     rw [show (s.burn).E = A ++ f :: B from HG.out.2.1, HNJ.out.2, enVs_take] at h1
     rw [HNJ.out.2]; exact h1)
    go_upto_region 9 with (at_builtin; refine wpList_append_row rfl (.tmp 18) (.tmp 24) 43 43 rfl 72 i0 _ 3 48 Tryz.underlying43 HI.out.1 HI.out.2.1 HI.out.2.2.1 HI.out.2.2.2 rfl rfl (Row.empty w2 72 3) rfl (Src.rd 43 72 Tryz.underlying43 HS1.out (enVs_one _)) (by unfold maxLen; omega) (by omega) (by omega) ?_; intro a9 c9 w9 hr9 st9)
    rw [Nat.zero_add, List.nil_append] at hr9
    have H9 : Hid (Row w9 3 a9 j c9 (enVs A) ∧ Step [] (blks a9) w2 w9) := Lib.hid ⟨hr9, ((Step.refl [] w2).hold (.cells #[] 72)).trans st9⟩
    clear hr9 st9 c0 dl hdf
    have H3' := H3.out.step H9.out.2 (by simp)
    have H4 := Lib.hid H3'
    have c0 := H3'.blk.cell 0
    simp only [List.getElem?_toArray, List.getElem?_cons_zero, List.getElem?_cons_succ] at c0
    rw [show s.burn.E = s.E from rfl, ← HNJ.out.1] at c0
    clear H3'
    have hj1 : (j : Int) + 1 ≤ (N : Int) := by omega
    have hj2 : (j : Int) + 1 ≤ (cap : Int) := by omega
    have hNc : (N : Int) ≤ (cap : Int) := by omega
    have HS2 : Hid (Rd w9 3 (if cap = j + 1 then some ⟨g, off, none⟩ else some ⟨g, off + (j + 1) * 3, none⟩) (N - (j + 1)) (enVs B)) := Lib.hid (by
     have h1 := (H4.out.row.sub (j + 1) N (by omega) (by show N ≤ s.E.length; rw [← HNJ.out.1]; exact Nat.le_refl _)).rd
     have hB : ((enVs s.burn.E).drop ((j + 1) * 3)).take ((N - (j + 1)) * 3) = enVs B := by
      have e : s.burn.E = (A ++ [f]) ++ B := by rw [show s.burn.E = s.E from rfl, HG.out.2.1]; simp
      have l1 : (A ++ [f]).length = j + 1 := by rw [HNJ.out.2]; simp
      have l2 : N = (j + 1) + B.length := by rw [HNJ.out.1, HNJ.out.2, HG.out.2.1]; simp; omega
      rw [e, ← l1, enVs_drop, List.take_of_length_le]
      rw [enVs_len, l1, l2]; omega
     rw [hB] at h1
     simpa [addr_add] using h1)
    have HDA : Hid (d ∉ blks a9) := Lib.hid (fun hm => by
     rcases H9.out.2.fresh d hm with h | h
     ·simp at h
     ·have := H3.out.blk.lt; omega)
    have HLN : Hid (j + (N - (j + 1)) = (A ++ B).length) := Lib.hid (by rw [HNJ.out.1, HNJ.out.2, HG.out.2.1]; simp; omega)
    by_cases hcj : cap = j + 1
    ·rw [if_pos hcj] at HS2
     go_wp2_with (at_builtin; refine wpList_append_row rfl (.tmp 27) (.tmp 34) 43 43 rfl 72 i0 _ 3 48 Tryz.underlying43 HI.out.1 HI.out.2.1 HI.out.2.2.1 HI.out.2.2.2 rfl rfl H9.out.1 rfl (Src.rd 43 72 Tryz.underlying43 HS2.out (enVs_one _)) (by unfold maxLen; omega) (by omega) (by omega) ?_; intro b9 d9 v9 hr9 st9; have G9 : Hid (Row v9 3 b9 (j + (N - (j + 1))) d9 (enVs A ++ enVs B) ∧ Step (blks a9) (blks b9) w9 v9) := Lib.hid ⟨hr9, st9⟩; have HD9 := H4.out.blk.step st9 HDA.out; have dl := HD9.lt; have df := HD9.frozen 0; have cc := HD9.cell 0; simp only [List.getElem?_toArray, List.getElem?_cons_zero, List.getElem?_cons_succ] at cc; have HE9 := Lib.hid HD9; clear hr9 st9 HD9 c0)
     have hdb : d ∉ blks b9 := fun hm => by
      rcases G9.out.2.fresh d hm with h | h
      ·exact HDA.out h
      ·have := H4.out.blk.lt; omega
     obtain ⟨v10, hv10⟩ : ∃ v, v = v9.setCell ⟨d, 0, none⟩ (.slice b9 (j + (N - (j + 1))) d9) := ⟨_, rfl⟩
     have hbk := HE9.out.set 0 (.slice b9 (j + (N - (j + 1))) d9)
     have hs0 : Step [] (blks b9) w2 v9 := H9.out.2.trans G9.out.2
     have hs1 : Step S (d :: blks b9) w2 v10 := by
      rw [hv10]
      exact (hs0.wide (T := S) (S'' := d :: blks b9) (by simp) (by
       intro k hk
       rcases List.mem_cons.1 hk with rfl | hk
       ·exact .inl HB.out.1.memd
       ·exact .inr (.inl hk))).setCell (p := ⟨d, 0, none⟩) (.inl (by simp)) _
     rw [← hv10] at hbk ⊢
     have hrow : Row v10 3 b9 (j + (N - (j + 1))) d9 (enVs A ++ enVs B) := by
      rw [hv10]
      exact G9.out.1.step ((Step.refl [d] v9).setCell (p := ⟨d, 0, none⟩) (.inl (by simp)) _) (by intro k hk hm; simp only [List.mem_singleton] at hm; exact hdb (hm ▸ hk))
     refine bodyPost_ret (results_tmp rfl _ _ _) rfl ?_
     simp only [RfP, removeS, onFile, HO.out, HG.out.1, HQ.out, Bool.false_eq_true, if_false]
     have hed : edel s.E x = A ++ B := by rw [HG.out.2.1, ← HG.out.2.2.1, edel_mid (by rw [← HG.out.2.1]; exact HR.out)]
     rw [hed]
     refine ⟨rfl, d :: blks b9, ⟨b9, d9, rfl, ?_, ?_, hdb⟩, H2.out.2.trans hs1⟩
     ·rw [HLN.out] at hbk
      rw [← HQ.out]
      simpa using hbk
     ·simp only
      rw [← HLN.out, enVs_app]
      exact hrow
    ·rw [if_neg hcj] at HS2
     go_wp2_with (at_builtin; refine wpList_append_row rfl (.tmp 27) (.tmp 34) 43 43 rfl 72 i0 _ 3 48 Tryz.underlying43 HI.out.1 HI.out.2.1 HI.out.2.2.1 HI.out.2.2.2 rfl rfl H9.out.1 rfl (Src.rd 43 72 Tryz.underlying43 HS2.out (enVs_one _)) (by unfold maxLen; omega) (by omega) (by omega) ?_; intro b9 d9 v9 hr9 st9; have G9 : Hid (Row v9 3 b9 (j + (N - (j + 1))) d9 (enVs A ++ enVs B) ∧ Step (blks a9) (blks b9) w9 v9) := Lib.hid ⟨hr9, st9⟩; have HD9 := H4.out.blk.step st9 HDA.out; have dl := HD9.lt; have df := HD9.frozen 0; have cc := HD9.cell 0; simp only [List.getElem?_toArray, List.getElem?_cons_zero, List.getElem?_cons_succ] at cc; have HE9 := Lib.hid HD9; clear hr9 st9 HD9 c0)
     have hdb : d ∉ blks b9 := fun hm => by
      rcases G9.out.2.fresh d hm with h | h
      ·exact HDA.out h
      ·have := H4.out.blk.lt; omega
     obtain ⟨v10, hv10⟩ : ∃ v, v = v9.setCell ⟨d, 0, none⟩ (.slice b9 (j + (N - (j + 1))) d9) := ⟨_, rfl⟩
     have hbk := HE9.out.set 0 (.slice b9 (j + (N - (j + 1))) d9)
     have hs0 : Step [] (blks b9) w2 v9 := H9.out.2.trans G9.out.2
     have hs1 : Step S (d :: blks b9) w2 v10 := by
      rw [hv10]
      exact (hs0.wide (T := S) (S'' := d :: blks b9) (by simp) (by
       intro k hk
       rcases List.mem_cons.1 hk with rfl | hk
       ·exact .inl HB.out.1.memd
       ·exact .inr (.inl hk))).setCell (p := ⟨d, 0, none⟩) (.inl (by simp)) _
     rw [← hv10] at hbk ⊢
     have hrow : Row v10 3 b9 (j + (N - (j + 1))) d9 (enVs A ++ enVs B) := by
      rw [hv10]
      exact G9.out.1.step ((Step.refl [d] v9).setCell (p := ⟨d, 0, none⟩) (.inl (by simp)) _) (by intro k hk hm; simp only [List.mem_singleton] at hm; exact hdb (hm ▸ hk))
     refine bodyPost_ret (results_tmp rfl _ _ _) rfl ?_
     simp only [RfP, removeS, onFile, HO.out, HG.out.1, HQ.out, Bool.false_eq_true, if_false]
     have hed : edel s.E x = A ++ B := by rw [HG.out.2.1, ← HG.out.2.2.1, edel_mid (by rw [← HG.out.2.1]; exact HR.out)]
     rw [hed]
     refine ⟨rfl, d :: blks b9, ⟨b9, d9, rfl, ?_, ?_, hdb⟩, H2.out.2.trans hs1⟩
     ·rw [HLN.out] at hbk
      rw [← HQ.out]
      simpa using hbk
     ·simp only
      rw [← HLN.out, enVs_app]
      exact hrow

end Go.Proofs.YtjdgdmlhipbaaaaGreatDoor
namespace Go.Proofs.YtjdgdmlhipbaaaaGreatDoor
open Go.RowKit Go.Maps
set_option linter.unusedSimpArgs false
set_option linter.unusedVariables false
set_option maxRecDepth 100000


theorem StB.burn {s : St} (h : StB s) : StB s.burn := by
 refine ⟨h.room, ?_, h.used, h.len⟩
 have := h.fuse
 show -1 ≤ (if 0 < s.fuse then s.fuse - 1 else s.fuse) ∧ (if 0 < s.fuse then s.fuse - 1 else s.fuse) ≤ 9223372036854775807
 split <;> omega
theorem rused_q {w : World} {S : List Nat} {d : Nat} {s : St} (h : Rf w S d s) (hB : StB s) (n : Nat) : Calls Tryz.prog 24 #[.pointer (some ⟨d, 0, none⟩)] (w.drewN n) fun e w'' => e = .returned (.int .i64 (usedE s.E : Nat)) ∧ ∃ m, w'' = w.drewN m :=
 (rused_any (w.drewN n) S d s (h.keep ((Step.refl [] w).drewN n)) hB).mono fun e w'' ⟨he, m, hm⟩ => ⟨he, n + m, by rw [hm, drewN_add]⟩
theorem bb_asym {a b : List UInt8} (h : bytesBefore a b = true) : bytesBefore b a = false := by
 cases h2 : bytesBefore b a with
 | false => rfl
 | true => have := WideShapes.bytes_trans _ _ _ h h2; rw [WideAt.bytes_irrefl] at this; cases this
theorem eins_at (x : En) : ∀ (A B : List En), (∀ f ∈ A, bytesBefore f.n x.n = true) → (∀ y, B[0]? = some y → bytesBefore x.n y.n = true) → eins x (A ++ B) = A ++ x :: B
 | [], [], _, _ => rfl
 | [], y :: B, _, h => by
  show (if bytesBefore x.n y.n then _ else _) = _
  rw [if_pos (h y rfl)]
  rfl
 | y :: A, B, h1, h2 => by
  show (if bytesBefore x.n y.n then _ else _) = _
  rw [if_neg (by rw [bb_asym (h1 y (by simp))]; simp)]
  show y :: eins x (A ++ B) = _
  rw [eins_at x A B (fun f hf => h1 f (by simp [hf])) h2]
  rfl
theorem bless_eq : ∀ a b : List UInt8, Op.bytesLess a b = bytesBefore a b
 | [], [] => rfl
 | [], _ :: _ => rfl
 | _ :: _, [] => rfl
 | a :: r, b :: s => by simp only [Op.bytesLess, bytesBefore, bless_eq r s]
def ApR (w2 : World) (E : List En) (x : List UInt8) (k : Nat) (oa : Option Addr) (oc : Nat) (W : World) : Prop := Row W 3 oa k oc (enVs (E.take k)) ∧ Step [] (blks oa) w2 W ∧ ∀ f ∈ E.take k, bytesBefore f.n x = true
theorem ApR.next {w2 W w9 : World} {E : List En} {x : List UInt8} {k oc c9 : Nat} {oa a9 : Option Addr} {y : En} (h : ApR w2 E x k oa oc W) (hy : E[k]? = some y) (hb : bytesBefore y.n x = true) (o : Obj)
  (hr : Row w9 3 a9 (k + 1) c9 (enVs (E.take k) ++ enVs [y])) (st : Step (blks oa) (blks a9) (W.alloc o) w9) : ApR w2 E x (k + 1) a9 c9 w9 := by
 have hk := (List.getElem?_eq_some_iff.1 hy).1
 have hg := (List.getElem?_eq_some_iff.1 hy).2
 refine ⟨?_, (h.2.1.alloc o).trans st, fun f hf => ?_⟩
 ·rw [List.take_succ_eq_append_getElem hk, hg, enVs_app]
  exact hr
 ·rw [List.take_succ_eq_append_getElem hk, hg] at hf
  rcases List.mem_append.1 hf with hf | hf
  ·exact h.2.2 f hf
  ·simp at hf; subst hf; exact hb

set_option maxHeartbeats 1000000 in
theorem rappend_any (x b : List UInt8) (w : World) (S : List Nat) (d : Nat) (s : St) (h : Rf w S d s) (hB : StB s) (hr : ERis s.E) (hx : x.length ≤ 1099511627776 ∧ b.length ≤ 1099511627776) : Calls Tryz.prog 17 #[.pointer (some ⟨d, 0, none⟩), Str x, Str b] w (RfP (appendS s x b) S d w) := by
 have HR := Lib.hid hr
 have HX := Lib.hid hx
 have HB := Lib.hid (And.intro h hB)
 have hroom := hB.room
 obtain ⟨hr0, hr1⟩ := hroom
 have hbl : b.length ≤ 1099511627776 := hx.2
 obtain ⟨a, cap, h1⟩ := h
 have c1 := h1.blk.cell 1
 have c3 := h1.blk.cell 3
 simp only [List.getElem?_toArray, List.getElem?_cons_zero, List.getElem?_cons_succ] at c1 c3
 have dl := h1.blk.lt
 have HD := Lib.hid h1
 clear hr hx hB h1
 go_enter Tryz.func17, Tryz.ntmps17
 cases ho : s.off with
 | true =>
  have HO := Lib.hid ho
  rw [ho] at c3
  clear ho
  go_wp2_with fail
  refine bodyPost_ret (results_tmp rfl _ _ _) rfl ?_
  simp only [RfP, appendS, HO.out, if_true]
  exact ⟨rfl, S, HB.out.1, Step.refl _ _⟩
 | false =>
  have HO := Lib.hid ho
  rw [ho] at c3
  clear ho
  go_wp2_with fail
  refine (refRight_any x w HX.out.1).mono ?_
  rintro e w1 ⟨rfl, rfl⟩
  cases hrt : rightL x with
  | false =>
   have HRT := Lib.hid hrt
   clear hrt
   go_wp2_with fail
   refine bodyPost_ret (results_tmp rfl _ _ _) rfl ?_
   simp only [RfP, appendS, HO.out, HRT.out, if_true, Bool.false_eq_true, if_false]
   exact ⟨rfl, S, HB.out.1, Step.refl _ _⟩
  | true =>
   have HRT := Lib.hid hrt
   clear hrt
   obtain ⟨U, hU⟩ : ∃ U, U = usedE s.E := ⟨_, rfl⟩
   have hUb : U ≤ 8388608 := by rw [hU]; exact HB.out.2.used
   have hu : ∀ n, Calls Tryz.prog 24 #[.pointer (some ⟨d, 0, none⟩)] (w.drewN n) fun e w'' => e = .returned (.int .i64 (U : Int)) ∧ ∃ m, w'' = w.drewN m := fun n => by rw [hU]; exact rused_q HB.out.1 HB.out.2 n
   have HU := Lib.hid hU
   clear hU c3
   have hwr : IntKind.i64.wrap (s.room - (U : Int)) = s.room - (U : Int) := IntWalk.i64_in _ (by omega)
   by_cases hfull : s.room < (U : Int) + b.length
   ·have HFU : Hid ((usedE s.E : Int) + b.length > s.room) := Lib.hid (by rw [← HU.out]; omega)
    by_cases h1 : s.room < (U : Int)
    ·have h1d : decide (s.room < (U : Int)) = true := decide_eq_true h1
     clear h1 hfull
     go_upto_region 5 with fail
     refine wp_region_quiet_lit (by kernel_rfl) (by kernel_rfl) ?_
     repeat go_big_quiet_step (with_reducible exact hu _)
     refine wpQuiet_nil ?_
     intro W5 hw5
     obtain ⟨n5, hW5⟩ := hw5
     by_cases hb0 : 0 < b.length
     ·have hbd : decide (0 < b.length) = true := decide_eq_true hb0
      have hbi : decide ((0 : Int) < (b.length : Int)) = true := decide_eq_true (by omega)
      clear hb0
      have c1' := cell_drewN hW5 c1
      have dl' : d < W5.heap.size := by rw [hW5]; exact dl
      have hu5 : ∀ n, Calls Tryz.prog 24 #[.pointer (some ⟨d, 0, none⟩)] (W5.drewN n) fun e w'' => e = .returned (.int .i64 (U : Int)) ∧ ∃ m, w'' = W5.drewN m := fun n => by rw [HU.out, hW5]; exact rused_q (HB.out.1.keep ((Step.refl [] w).drewN n5)) HB.out.2 n
      have HW5 := Lib.hid hW5
      clear hW5
      go_upto_region 6 with fail
      refine wp_region_quiet_lit (by kernel_rfl) (by kernel_rfl) ?_
      repeat go_big_quiet_step (with_reducible exact hu5 _)
      refine wpQuiet_nil ?_
      intro W6 hw6
      obtain ⟨n6, hW6⟩ := hw6
      have HW6 : Hid (W6 = w.drewN (n5 + n6)) := Lib.hid (by rw [hW6, HW5.out, drewN_add])
      clear hW6
      go_wp2_with fail
      refine bodyPost_ret (results_tmp rfl _ _ _) rfl ?_
      simp only [RfP, appendS, HO.out, HRT.out, Bool.false_eq_true, if_false, Bool.true_eq_false]
      rw [if_pos HFU.out]
      rw [HW6.out]
      exact ⟨rfl, S, HB.out.1.keep ((Step.refl [] w).drewN _), ((Step.refl [] w).drewN _).keep S⟩
     ·have hbd : decide (0 < b.length) = false := decide_eq_false hb0
      have hbi : decide ((0 : Int) < (b.length : Int)) = false := decide_eq_false (by omega)
      clear hb0
      have c1' := cell_drewN hW5 c1
      have dl' : d < W5.heap.size := by rw [hW5]; exact dl
      have hu5 : ∀ n, Calls Tryz.prog 24 #[.pointer (some ⟨d, 0, none⟩)] (W5.drewN n) fun e w'' => e = .returned (.int .i64 (U : Int)) ∧ ∃ m, w'' = W5.drewN m := fun n => by rw [HU.out, hW5]; exact rused_q (HB.out.1.keep ((Step.refl [] w).drewN n5)) HB.out.2 n
      have HW5 := Lib.hid hW5
      clear hW5
      go_upto_region 6 with fail
      refine wp_region_quiet_lit (by kernel_rfl) (by kernel_rfl) ?_
      repeat go_big_quiet_step (with_reducible exact hu5 _)
      refine wpQuiet_nil ?_
      intro W6 hw6
      obtain ⟨n6, hW6⟩ := hw6
      have HW6 : Hid (W6 = w.drewN (n5 + n6)) := Lib.hid (by rw [hW6, HW5.out, drewN_add])
      clear hW6
      go_wp2_with fail
      refine bodyPost_ret (results_tmp rfl _ _ _) rfl ?_
      simp only [RfP, appendS, HO.out, HRT.out, Bool.false_eq_true, if_false, Bool.true_eq_false]
      rw [if_pos HFU.out]
      rw [HW6.out]
      exact ⟨rfl, S, HB.out.1.keep ((Step.refl [] w).drewN _), ((Step.refl [] w).drewN _).keep S⟩
    ·have h1d : decide (s.room < (U : Int)) = false := decide_eq_false h1
     have hg2 : decide (s.room - (U : Int) < (b.length : Int)) = true := decide_eq_true (by omega)
     have hbd : decide (0 < b.length) = true := decide_eq_true (by omega)
     have hbi : decide ((0 : Int) < (b.length : Int)) = true := decide_eq_true (by omega)
     clear h1 hfull
     go_upto_region 5 with fail
     refine wp_region_quiet_lit (by kernel_rfl) (by kernel_rfl) ?_
     repeat go_big_quiet_step (with_reducible exact hu _)
     refine wpQuiet_nil ?_
     intro W5 hw5
     obtain ⟨n5, hW5⟩ := hw5
     have c1' := cell_drewN hW5 c1
     have dl' : d < W5.heap.size := by rw [hW5]; exact dl
     have hu5 : ∀ n, Calls Tryz.prog 24 #[.pointer (some ⟨d, 0, none⟩)] (W5.drewN n) fun e w'' => e = .returned (.int .i64 (U : Int)) ∧ ∃ m, w'' = W5.drewN m := fun n => by rw [HU.out, hW5]; exact rused_q (HB.out.1.keep ((Step.refl [] w).drewN n5)) HB.out.2 n
     have HW5 := Lib.hid hW5
     clear hW5
     go_upto_region 6 with fail
     refine wp_region_quiet_lit (by kernel_rfl) (by kernel_rfl) ?_
     repeat go_big_quiet_step (with_reducible exact hu5 _)
     refine wpQuiet_nil ?_
     intro W6 hw6
     obtain ⟨n6, hW6⟩ := hw6
     have HW6 : Hid (W6 = w.drewN (n5 + n6)) := Lib.hid (by rw [hW6, HW5.out, drewN_add])
     clear hW6
     go_wp2_with fail
     refine bodyPost_ret (results_tmp rfl _ _ _) rfl ?_
     simp only [RfP, appendS, HO.out, HRT.out, Bool.false_eq_true, if_false, Bool.true_eq_false]
     rw [if_pos HFU.out]
     rw [HW6.out]
     exact ⟨rfl, S, HB.out.1.keep ((Step.refl [] w).drewN _), ((Step.refl [] w).drewN _).keep S⟩
   ·have h1d : decide (s.room < (U : Int)) = false := decide_eq_false (by omega)
    have hg2 : decide (s.room - (U : Int) < (b.length : Int)) = false := decide_eq_false (by omega)
    have HFU : Hid (¬ ((usedE s.E : Int) + b.length > s.room)) := Lib.hid (by rw [← HU.out]; omega)
    clear hfull
    go_upto_region 5 with fail
    refine wp_region_quiet_lit (by kernel_rfl) (by kernel_rfl) ?_
    repeat go_big_quiet_step (with_reducible exact hu _)
    refine wpQuiet_nil ?_
    intro W5 hw5
    obtain ⟨n5, hW5⟩ := hw5
    clear h1d hg2 hwr hu hUb hr0 hr1 c1 dl
    have H0 : Hid (Rfm W5 S d a cap s ∧ Step [] [] w W5) := Lib.hid (by rw [hW5]; exact ⟨HD.out.step ((Step.refl [] w).drewN n5) (by simp), (Step.refl [] w).drewN n5⟩)
    clear hW5
    go_wp2_with fail
    refine (rburns_any W5 S d cap a s H0.out.1 HB.out.2.fuse.2).mono ?_
    rintro e w2 ⟨rfl, hb2, hs2⟩
    have hw2 : Step S S w w2 := (H0.out.2.keep S).trans (hs2.wide (by intro k hk; simp only [List.mem_singleton] at hk; rw [hk, HD.out.hS]; simp) (by intro k hk; exact .inl hk))
    have H2 := Lib.hid (And.intro hb2 hw2)
    clear hb2 hs2 hw2 H0
    cases hbo : s.burn.off with
    | true =>
     have HQ := Lib.hid hbo
     clear hbo
     go_wp2_with fail
     refine bodyPost_ret (results_tmp rfl _ _ _) rfl ?_
     simp only [RfP, appendS, HO.out, HRT.out, HQ.out, Bool.false_eq_true, if_false, if_true, Bool.true_eq_false]
     rw [if_neg (by have := HFU.out; omega)]
     exact ⟨rfl, S, ⟨a, cap, H2.out.1⟩, H2.out.2⟩
    | false =>
     have HQ := Lib.hid hbo
     clear hbo
     go_wp2_with fail
     refine (rat_any x w2 S d s.burn ⟨a, cap, H2.out.1⟩ HB.out.2.burn).mono ?_
     rintro e w3 ⟨rfl, rfl⟩
     cases hg : eget s.E x with
     | some f =>
      obtain ⟨A, B, hE, hfn, hai, hel⟩ := atI_split hg
      rw [show atI s.burn.E x = (A.length : Int) from hai]
      have HG := Lib.hid (And.intro hg (And.intro hE (And.intro hfn hel)))
      have hAE : A.length < s.E.length := by rw [hE]; simp
      have hAi : (A.length : Int) < (s.E.length : Int) := by omega
      have hnn : decide (0 ≤ (A.length : Int)) = true := decide_eq_true (by omega)
      clear hg hE hfn hai hel
      obtain ⟨g, off, hs1⟩ := (HD.out.row).some_of_pos (by omega)
      have hful : f.d.length + f.l.length ≤ 8388608 := by
       have := used_mem (E := s.E) (f := f) (by rw [HG.out.2.1]; simp)
       have := HB.out.2.used
       omega
      have H3 : Hid (Rfm w2 S d (some ⟨g, off, none⟩) cap s.burn) := Lib.hid (by rw [← hs1]; exact H2.out.1)
      have hr2 := rd_en (E := s.E) H3.out.row.rd HG.out.2.2.2
      have H3d := H3.out.step (Step.refl [] w2).drew (by simp)
      have hr2d := rd_en (E := s.E) H3d.row.rd HG.out.2.2.2
      have c0 := H3.out.blk.cell 0
      have c0d := H3d.blk.cell 0
      simp only [List.getElem?_toArray, List.getElem?_cons_zero, List.getElem?_cons_succ] at c0 c0d
      rw [show s.burn.E = s.E from rfl] at c0 c0d
      obtain ⟨z0, z1, z2⟩ := hr2
      obtain ⟨z0d, z1d, z2d⟩ := hr2d
      have gl : g < w2.heap.size := by have := World.block_lt_of_cell? _ _ z1; simpa using this
      have gld : g < w2.drew.heap.size := gl
      have y2 := (H3.out.row.cell rfl (A.length * 3 + 2) (by show _ < s.E.length * 3; omega)).2.1
      have y2d := (H3d.row.cell rfl (A.length * 3 + 2) (by show _ < s.E.length * 3; omega)).2.1
      rw [← Nat.add_assoc] at y2 y2d
      have hcat : f.l.length + b.length ≤ 9223372036854775807 := by omega
      clear z0 z1 z0d z1d H3d hs1
      go_upto_region 12 with fail
      refine still_tail 15 (by kernel_rfl) (by kernel_rfl) ?_
      simp only [List.take_succ_cons, List.take_zero, List.drop_succ_cons, List.drop_zero]
      repeat still_step
      refine wpStill_nil ?_
      go_wp2_with fail
      obtain ⟨hfin, hst⟩ := H3.out.late HG.out.2.1 (f.l ++ b)
      refine bodyPost_ret (results_tmp rfl _ _ _) rfl ?_
      simp only [RfP, appendS, HO.out, HRT.out, HQ.out, Bool.false_eq_true, if_false, Bool.true_eq_false]
      rw [if_neg (by have := HFU.out; omega)]
      have hadd : addE s.E x b = A ++ ⟨f.n, f.d, f.l ++ b⟩ :: B := by
       simp only [addE, HG.out.1]
       rw [HG.out.2.1, ← HG.out.2.2.1, emod_mid (by rw [← HG.out.2.1]; exact HR.out)]
      rw [hadd]
      refine ⟨rfl, S, ⟨some ⟨g, off, none⟩, cap, ?_⟩, H2.out.2.trans hst.drew⟩
      have := hfin.step ((Step.refl [] _).drew) (by simp)
      rw [← HQ.out]
      exact this
     | none =>
      rw [show atI s.burn.E x = -1 from atI_miss hg]
      have HG := Lib.hid hg
      clear hg
      have c0 := H2.out.1.blk.cell 0
      simp only [List.getElem?_toArray, List.getElem?_cons_zero, List.getElem?_cons_succ] at c0
      rw [show s.burn.E = s.E from rfl] at c0
      have hNl : s.E.length ≤ 1099511627776 := HB.out.2.len
      obtain ⟨N, hN⟩ : ∃ N, N = s.E.length := ⟨_, rfl⟩
      rw [← hN] at c0 hNl
      have HN := Lib.hid hN
      clear hN
      obtain ⟨i0, hi, hz0, hz1, hz2⟩ := info_parts Tryz.info_file
      have HI := Lib.hid (And.intro hi (And.intro hz0 (And.intro hz1 hz2)))
      clear hi hz0 hz1 hz2
      go_upto_block 0 with fail
      go_cut [8, 9] (fun l i wx => ∃ (k oc : Nat) (oa : Option Addr), i = .int .i64 k ∧ k ≤ N ∧ l = .slice oa k oc ∧ Hid (ApR w2 s.E x k oa oc wx ∧ ∀ y, (s.E.drop k)[0]? = some y → bytesBefore x y.n = true))
      case first =>
       go_wp2_with fail
       go_loopw [8, 9] (fun l i W => ∃ (k oc : Nat) (oa : Option Addr), i = .int .i64 k ∧ k ≤ N ∧ l = .slice oa k oc ∧ Hid (ApR w2 s.E x k oa oc W)) (fun _ i _ => N - (intOf i).toNat)
       case atStart => exact ⟨0, 0, some ⟨w2.heap.size, 0, none⟩, rfl, by omega, rfl, Lib.hid ⟨Row.empty w2 72 3, by have := (Step.refl [] w2).hold (.cells #[] 72); simpa [blks] using this, by simp⟩⟩
       case round =>
        rename World => W
        obtain ⟨k, oc, oa, rfl, hkN, rfl, HW⟩ := hrel
        have H2W := H2.out.1.step HW.out.2.1 (by simp)
        have c0' := H2W.blk.cell 0
        simp only [List.getElem?_toArray, List.getElem?_cons_zero, List.getElem?_cons_succ] at c0'
        rw [show s.burn.E = s.E from rfl, ← HN.out] at c0'
        clear c0
        by_cases hlt : k < N
        ·have hlt' : (k : Int) < N := by omega
         obtain ⟨y, hy⟩ : ∃ y, s.E[k]? = some y := ⟨_, List.getElem?_eq_getElem (by rw [← HN.out]; exact hlt)⟩
         obtain ⟨g, off, hs1⟩ := H2W.row.some_of_pos (by show 0 < s.E.length; rw [← HN.out]; omega)
         have hr := H2W.row.rd
         rw [hs1] at hr c0'
         obtain ⟨z0, z1, z2⟩ := rd_en (E := s.E) hr hy
         have gl : g < W.heap.size := by have := World.block_lt_of_cell? _ _ z1; simpa using this
         have HY := Lib.hid hy
         clear hr hs1 H2W hy
         cases hbb : bytesBefore y.n x with
         | true =>
          have HBB := Lib.hid hbb
          have hbl2 : Op.bytesLess y.n x = true := by rw [bless_eq]; exact hbb
          clear hbb
          go_upto_region 18 with (at_builtin; refine wpList_append_row rfl (.tmp 92) (.tmp 100) 43 43 rfl 72 i0 _ 3 48 Tryz.underlying43 HI.out.1 HI.out.2.1 HI.out.2.2.1 HI.out.2.2.2 rfl rfl (HW.out.1.alloc _) rfl (Src.rd 43 72 Tryz.underlying43 (rd_blk' (xs := enVs [y]) (Blk.new W 72 _) 3 1 rfl) (enVs_one _)) (by unfold maxLen; omega) (by omega) (by omega) ?_; intro a9 c9 w9 hr9 st9; have H9 : Hid (ApR w2 s.E x (k + 1) a9 c9 w9) := Lib.hid (HW.out.next HY.out HBB.out _ hr9 st9); clear hr9 st9)
          go_wp2_with fail
          go_roundw
          case rel => exact ⟨k + 1, c9, a9, by go_num, by omega, rfl, H9⟩
          case measure => simp [intOf]; omega
         | false =>
          have hbl2 : Op.bytesLess y.n x = false := by rw [bless_eq]; exact hbb
          have HE : Hid (∀ y, (s.E.drop k)[0]? = some y → bytesBefore x y.n = true) := Lib.hid (by
           intro z hz
           rw [List.getElem?_drop, Nat.add_zero, HY.out] at hz
           cases hz
           have hne : y.n ≠ x := fun e => by
            have := List.find?_eq_none.1 (show s.E.find? (fun f => f.n == x) = none from HG.out) y (List.mem_of_getElem? HY.out)
            simp [e] at this
           rcases WideAt.bytes_total y.n x hne with h | h
           ·rw [hbb] at h; cases h
           ·exact h)
          clear hbb
          go_wp2_with fail
          go_meet
          exact ⟨k, oc, oa, rfl, by omega, rfl, Lib.hid ⟨HW.out, HE.out⟩⟩
        ·have hnl : ¬ (k : Int) < N := by omega
         have hnd : decide (k < N) = false := decide_eq_false hlt
         have HE : Hid (∀ y, (s.E.drop k)[0]? = some y → bytesBefore x y.n = true) := Lib.hid (by
          intro y hy
          rw [List.getElem?_drop] at hy
          have := (List.getElem?_eq_some_iff.1 hy).1
          rw [← HN.out] at this
          omega)
         clear H2W
         go_wp2_with fail
         go_meet
         exact ⟨k, oc, oa, rfl, by omega, rfl, Lib.hid ⟨HW.out, HE.out⟩⟩
      case rest =>
       clear c0
       rename World => V
       obtain ⟨k, oc, oa, rfl, hkN, rfl, HV⟩ := hcut
       have HKN := Lib.hid hkN
       have HAD : Hid (addE s.E x b = s.E.take k ++ ⟨x, [], b⟩ :: s.E.drop k) := Lib.hid (by
        simp only [addE, HG.out]
        conv => lhs; rw [← List.take_append_drop k s.E]
        exact eins_at ⟨x, [], b⟩ _ _ HV.out.1.2.2 HV.out.2)
       go_upto_region 20 with (at_builtin; refine wpList_append_row rfl (.tmp 104) (.tmp 108) 43 43 rfl 72 i0 _ 3 48 Tryz.underlying43 HI.out.1 HI.out.2.1 HI.out.2.2.1 HI.out.2.2.2 rfl rfl (HV.out.1.1.alloc _) rfl (Src.rd 43 72 Tryz.underlying43 (rd_blk' (xs := enVs [⟨x, [], b⟩]) (Blk.new V 72 _) 3 1 rfl) (enVs_one _)) (by unfold maxLen; omega) (by omega) (by omega) ?_; intro a9 c9 w9 hr9 st9; have H9 : Hid (Row w9 3 a9 (k + 1) c9 (enVs (s.E.take k) ++ enVs [⟨x, [], b⟩]) ∧ Step [] (blks a9) w2 w9) := Lib.hid ⟨hr9, (HV.out.1.2.1.alloc _).trans st9⟩; clear hr9 st9)
       have H3' := H2.out.1.step H9.out.2 (by simp)
       have H4 := Lib.hid H3'
       have c0 := H3'.blk.cell 0
       simp only [List.getElem?_toArray, List.getElem?_cons_zero, List.getElem?_cons_succ] at c0
       rw [show s.burn.E = s.E from rfl, ← HN.out] at c0
       have hcl := H3'.row.le
       rw [show s.burn.E = s.E from rfl, ← HN.out] at hcl
       have hcm := H3'.row.max
       have hnil := H3'.row.nil
       clear H3'
       have HDA : Hid (d ∉ blks a9) := Lib.hid (fun hm => by
        rcases H9.out.2.fresh d hm with h | h
        ·simp at h
        ·have := H2.out.1.blk.lt; omega)
       have hNc : (N : Int) ≤ (cap : Int) := by omega
       have hkc : (k : Int) ≤ (cap : Int) := by omega
       have hki : (k : Int) ≤ (N : Int) := by omega
       cases a with
       | none =>
        have hc0 := hnil rfl
        obtain rfl : cap = 0 := hc0
        obtain rfl : N = 0 := by omega
        obtain rfl : k = 0 := by omega
        have HS2 : Hid (Rd w9 3 none (0 - 0) (enVs (s.E.drop 0))) := Lib.hid (by
         have : s.E = [] := List.eq_nil_of_length_eq_zero HN.out.symm
         rw [this]
         exact (Row.none w9 3).rd)
        clear hnil
        go_wp2_with (at_builtin; refine wpList_append_row rfl (.tmp 111) (.tmp 117) 43 43 rfl 72 i0 _ 3 48 Tryz.underlying43 HI.out.1 HI.out.2.1 HI.out.2.2.1 HI.out.2.2.2 rfl rfl H9.out.1 rfl (Src.rd 43 72 Tryz.underlying43 HS2.out (enVs_one _)) (by unfold maxLen; omega) (by omega) (by omega) ?_; intro b9 d9 v9 hr9 st9; have G9 : Hid (Row v9 3 b9 (0 + 1 + (0 - 0)) d9 ((enVs (s.E.take 0) ++ enVs [⟨x, [], b⟩]) ++ enVs (s.E.drop 0)) ∧ Step (blks a9) (blks b9) w9 v9) := Lib.hid ⟨hr9, st9⟩; have HD9 := H4.out.blk.step st9 HDA.out; have dl := HD9.lt; have df := HD9.frozen 0; have cc := HD9.cell 0; simp only [List.getElem?_toArray, List.getElem?_cons_zero, List.getElem?_cons_succ] at cc; have HE9 := Lib.hid HD9; clear hr9 st9 HD9 c0)
        have hdb : d ∉ blks b9 := fun hm => by
         rcases G9.out.2.fresh d hm with h | h
         ·exact HDA.out h
         ·have := H4.out.blk.lt; omega
        obtain ⟨v10, hv10⟩ : ∃ v, v = v9.setCell ⟨d, 0, none⟩ (.slice b9 (0 + 1 + (0 - 0)) d9) := ⟨_, rfl⟩
        have hbk := HE9.out.set 0 (.slice b9 (0 + 1 + (0 - 0)) d9)
        have hs0 : Step [] (blks b9) w2 v9 := H9.out.2.trans G9.out.2
        have hs1 : Step S (d :: blks b9) w2 v10 := by
         rw [hv10]
         exact (hs0.wide (T := S) (S'' := d :: blks b9) (by simp) (by
          intro k hk
          rcases List.mem_cons.1 hk with rfl | hk
          ·exact .inl HD.out.memd
          ·exact .inr (.inl hk))).setCell (p := ⟨d, 0, none⟩) (.inl (by simp)) _
        rw [← hv10] at hbk ⊢
        have hrow : Row v10 3 b9 (0 + 1 + (0 - 0)) d9 (enVs (addE s.E x b)) := by
         rw [hv10, HAD.out, show s.E.take 0 ++ (⟨x, [], b⟩ : En) :: s.E.drop 0 = (s.E.take 0 ++ [⟨x, [], b⟩]) ++ s.E.drop 0 by simp, enVs_app, enVs_app]
         exact G9.out.1.step ((Step.refl [d] v9).setCell (p := ⟨d, 0, none⟩) (.inl (by simp)) _) (by intro k hk hm; simp only [List.mem_singleton] at hm; exact hdb (hm ▸ hk))
        have hlen : 0 + 1 + (0 - 0) = (addE s.E x b).length := by rw [HAD.out]; have := HN.out; simp only [List.take_zero, List.nil_append, List.length_cons, List.drop_zero]; omega
        refine bodyPost_ret (results_tmp rfl _ _ _) rfl ?_
        simp only [RfP, appendS, HO.out, HRT.out, HQ.out, Bool.false_eq_true, if_false, Bool.true_eq_false]
        rw [if_neg (by have := HFU.out; omega)]
        refine ⟨rfl, d :: blks b9, ⟨b9, d9, rfl, ?_, ?_, hdb⟩, H2.out.2.trans hs1⟩
        ·rw [hlen] at hbk
         rw [← HQ.out]
         simpa using hbk
        ·simp only
         rw [← hlen]
         exact hrow
       | some ad =>
        obtain ⟨g, off, sp⟩ := ad
        have hsp : sp = none := (H4.out.row.at_ _ rfl).1
        subst hsp
        have HS2 : Hid (Rd w9 3 (if cap = k then some ⟨g, off, none⟩ else some ⟨g, off + k * 3, none⟩) (N - k) (enVs (s.E.drop k))) := Lib.hid (by
         have h1 := (H4.out.row.sub k N (by omega) (by show N ≤ s.E.length; rw [← HN.out]; exact Nat.le_refl _)).rd
         have hB : ((enVs s.burn.E).drop (k * 3)).take ((N - k) * 3) = enVs (s.E.drop k) := by
          have l1 : (s.E.take k).length = k := by rw [List.length_take, ← HN.out]; omega
          rw [show s.burn.E = s.E.take k ++ s.E.drop k by rw [List.take_append_drop]; rfl]
          conv => lhs; rw [← l1]
          rw [l1]
          conv => lhs; arg 2; arg 1; rw [← l1]
          rw [enVs_drop, List.take_of_length_le]
          rw [enVs_len, List.length_drop, ← HN.out]
          omega
         rw [hB] at h1
         simpa [addr_add] using h1)
        clear hnil
        by_cases hcj : cap = k
        ·rw [if_pos hcj] at HS2
         go_wp2_with (at_builtin; refine wpList_append_row rfl (.tmp 111) (.tmp 117) 43 43 rfl 72 i0 _ 3 48 Tryz.underlying43 HI.out.1 HI.out.2.1 HI.out.2.2.1 HI.out.2.2.2 rfl rfl H9.out.1 rfl (Src.rd 43 72 Tryz.underlying43 HS2.out (enVs_one _)) (by unfold maxLen; omega) (by omega) (by omega) ?_; intro b9 d9 v9 hr9 st9; have G9 : Hid (Row v9 3 b9 (k + 1 + (N - k)) d9 ((enVs (s.E.take k) ++ enVs [⟨x, [], b⟩]) ++ enVs (s.E.drop k)) ∧ Step (blks a9) (blks b9) w9 v9) := Lib.hid ⟨hr9, st9⟩; have HD9 := H4.out.blk.step st9 HDA.out; have dl := HD9.lt; have df := HD9.frozen 0; have cc := HD9.cell 0; simp only [List.getElem?_toArray, List.getElem?_cons_zero, List.getElem?_cons_succ] at cc; have HE9 := Lib.hid HD9; clear hr9 st9 HD9 c0)
         have hdb : d ∉ blks b9 := fun hm => by
          rcases G9.out.2.fresh d hm with h | h
          ·exact HDA.out h
          ·have := H4.out.blk.lt; omega
         obtain ⟨v10, hv10⟩ : ∃ v, v = v9.setCell ⟨d, 0, none⟩ (.slice b9 (k + 1 + (N - k)) d9) := ⟨_, rfl⟩
         have hbk := HE9.out.set 0 (.slice b9 (k + 1 + (N - k)) d9)
         have hs0 : Step [] (blks b9) w2 v9 := H9.out.2.trans G9.out.2
         have hs1 : Step S (d :: blks b9) w2 v10 := by
          rw [hv10]
          exact (hs0.wide (T := S) (S'' := d :: blks b9) (by simp) (by
           intro k hk
           rcases List.mem_cons.1 hk with rfl | hk
           ·exact .inl HD.out.memd
           ·exact .inr (.inl hk))).setCell (p := ⟨d, 0, none⟩) (.inl (by simp)) _
         rw [← hv10] at hbk ⊢
         have hrow : Row v10 3 b9 (k + 1 + (N - k)) d9 (enVs (addE s.E x b)) := by
          rw [hv10, HAD.out, show s.E.take k ++ (⟨x, [], b⟩ : En) :: s.E.drop k = (s.E.take k ++ [⟨x, [], b⟩]) ++ s.E.drop k by simp, enVs_app, enVs_app]
          exact G9.out.1.step ((Step.refl [d] v9).setCell (p := ⟨d, 0, none⟩) (.inl (by simp)) _) (by intro k hk hm; simp only [List.mem_singleton] at hm; exact hdb (hm ▸ hk))
         have hlen : k + 1 + (N - k) = (addE s.E x b).length := by rw [HAD.out, HN.out]; have := HKN.out; rw [HN.out] at this; simp; omega
         refine bodyPost_ret (results_tmp rfl _ _ _) rfl ?_
         simp only [RfP, appendS, HO.out, HRT.out, HQ.out, Bool.false_eq_true, if_false, Bool.true_eq_false]
         rw [if_neg (by have := HFU.out; omega)]
         refine ⟨rfl, d :: blks b9, ⟨b9, d9, rfl, ?_, ?_, hdb⟩, H2.out.2.trans hs1⟩
         ·rw [hlen] at hbk
          rw [← HQ.out]
          simpa using hbk
         ·simp only
          rw [← hlen]
          exact hrow
        ·rw [if_neg hcj] at HS2
         go_wp2_with (at_builtin; refine wpList_append_row rfl (.tmp 111) (.tmp 117) 43 43 rfl 72 i0 _ 3 48 Tryz.underlying43 HI.out.1 HI.out.2.1 HI.out.2.2.1 HI.out.2.2.2 rfl rfl H9.out.1 rfl (Src.rd 43 72 Tryz.underlying43 HS2.out (enVs_one _)) (by unfold maxLen; omega) (by omega) (by omega) ?_; intro b9 d9 v9 hr9 st9; have G9 : Hid (Row v9 3 b9 (k + 1 + (N - k)) d9 ((enVs (s.E.take k) ++ enVs [⟨x, [], b⟩]) ++ enVs (s.E.drop k)) ∧ Step (blks a9) (blks b9) w9 v9) := Lib.hid ⟨hr9, st9⟩; have HD9 := H4.out.blk.step st9 HDA.out; have dl := HD9.lt; have df := HD9.frozen 0; have cc := HD9.cell 0; simp only [List.getElem?_toArray, List.getElem?_cons_zero, List.getElem?_cons_succ] at cc; have HE9 := Lib.hid HD9; clear hr9 st9 HD9 c0)
         have hdb : d ∉ blks b9 := fun hm => by
          rcases G9.out.2.fresh d hm with h | h
          ·exact HDA.out h
          ·have := H4.out.blk.lt; omega
         obtain ⟨v10, hv10⟩ : ∃ v, v = v9.setCell ⟨d, 0, none⟩ (.slice b9 (k + 1 + (N - k)) d9) := ⟨_, rfl⟩
         have hbk := HE9.out.set 0 (.slice b9 (k + 1 + (N - k)) d9)
         have hs0 : Step [] (blks b9) w2 v9 := H9.out.2.trans G9.out.2
         have hs1 : Step S (d :: blks b9) w2 v10 := by
          rw [hv10]
          exact (hs0.wide (T := S) (S'' := d :: blks b9) (by simp) (by
           intro k hk
           rcases List.mem_cons.1 hk with rfl | hk
           ·exact .inl HD.out.memd
           ·exact .inr (.inl hk))).setCell (p := ⟨d, 0, none⟩) (.inl (by simp)) _
         rw [← hv10] at hbk ⊢
         have hrow : Row v10 3 b9 (k + 1 + (N - k)) d9 (enVs (addE s.E x b)) := by
          rw [hv10, HAD.out, show s.E.take k ++ (⟨x, [], b⟩ : En) :: s.E.drop k = (s.E.take k ++ [⟨x, [], b⟩]) ++ s.E.drop k by simp, enVs_app, enVs_app]
          exact G9.out.1.step ((Step.refl [d] v9).setCell (p := ⟨d, 0, none⟩) (.inl (by simp)) _) (by intro k hk hm; simp only [List.mem_singleton] at hm; exact hdb (hm ▸ hk))
         have hlen : k + 1 + (N - k) = (addE s.E x b).length := by rw [HAD.out, HN.out]; have := HKN.out; rw [HN.out] at this; simp; omega
         refine bodyPost_ret (results_tmp rfl _ _ _) rfl ?_
         simp only [RfP, appendS, HO.out, HRT.out, HQ.out, Bool.false_eq_true, if_false, Bool.true_eq_false]
         rw [if_neg (by have := HFU.out; omega)]
         refine ⟨rfl, d :: blks b9, ⟨b9, d9, rfl, ?_, ?_, hdb⟩, H2.out.2.trans hs1⟩
         ·rw [hlen] at hbk
          rw [← HQ.out]
          simpa using hbk
         ·simp only
          rw [← hlen]
          exact hrow

end Go.Proofs.YtjdgdmlhipbaaaaGreatDoor
namespace Go.Proofs.YtjdgdmlhipbaaaaGreatDoor
open Go.RowKit Go.Maps
set_option linter.unusedSimpArgs false
set_option linter.unusedVariables false
set_option maxRecDepth 100000


theorem crashE_take {keep : List Int} {E : List En} {k : Nat} {y : En} (h : E[k]? = some y) : crashE keep 0 (E.take (k + 1)) = crashE keep 0 (E.take k) ++ [crashF keep (cntL (E.take k)) y] := by
 have hk := (List.getElem?_eq_some_iff.1 h).1
 have hx := (List.getElem?_eq_some_iff.1 h).2
 rw [List.take_succ_eq_append_getElem hk, hx, crashE_app]
 simp [crashE]
def RcR (keep : List Int) (E : List En) (w : World) (k : Nat) (oa : Option Addr) (oc : Nat) (W : World) : Prop := Row W 3 oa k oc (enVs (crashE keep 0 (E.take k))) ∧ Step [] (blks oa) w W
theorem RcR.next {keep : List Int} {w W V w9 : World} {E : List En} {k oc c9 : Nat} {oa a9 : Option Addr} {y z : En} (h : RcR keep E w k oa oc W) (hy : E[k]? = some y) (hz : crashF keep (cntL (E.take k)) y = z) (sv : Step [] [] W V)
  (hr : Row w9 3 a9 (k + 1) c9 (enVs (crashE keep 0 (E.take k)) ++ enVs [z])) (st : Step (blks oa) (blks a9) V w9) : RcR keep E w (k + 1) a9 c9 w9 := by
 refine ⟨?_, (h.2.trans (sv.keep (blks oa))).trans st⟩
 rw [crashE_take hy, hz, enVs_app]
 exact hr
@[go_sem high] theorem run_cat_none {P : Program} (x : List UInt8) (h : x.length ≤ 9223372036854775807) (w : World) : (Op.stringOp .add ⟨x.toArray⟩ ByteArray.empty).run P w = .ok (.string ⟨x.toArray⟩) w := by
 have := run_cat (P := P) x [] (by simpa using h) w
 rw [List.append_nil] at this
 exact this
def RcP (keep : List Int) (s : St) (S : List Nat) (d : Nat) (w : World) (e : Ending) (w' : World) : Prop := e = .returned (.tuple #[]) ∧ ∃ S', Rf w' S' d (crashS s keep) ∧ Step S S' w w'

set_option maxHeartbeats 1000000 in
theorem rcrash_any (keep : List Int) (w : World) (S : List Nat) (d : Nat) (s : St) (ka : Option Addr) (kc : Nat) (h : Rf w S d s) (hB : StB s) (hk : Rd w 1 ka keep.length (keep.map (Value.int .i64))) (hkl : keep.length ≤ maxLen) : Calls Tryz.prog 13 #[.pointer (some ⟨d, 0, none⟩), .slice ka keep.length kc] w (RcP keep s S d w) := by
 have HX := Lib.hid (And.intro hB hk)
 have hnk : keep.length ≤ 9223372036854775807 := by unfold maxLen at hkl; omega
 obtain ⟨a, cap, h1⟩ := h
 have HD := Lib.hid h1
 have c0 := h1.blk.cell 0
 simp only [List.getElem?_toArray, List.getElem?_cons_zero, List.getElem?_cons_succ] at c0
 have hNl : s.E.length ≤ 1099511627776 := hB.len
 obtain ⟨N, hN⟩ : ∃ N, N = s.E.length := ⟨_, rfl⟩
 rw [← hN] at c0 hNl
 have HN := Lib.hid hN
 clear hN h1 hB hk hkl
 obtain ⟨i0, hi, hz0, hz1, hz2⟩ := info_parts Tryz.info_file
 have HI := Lib.hid (And.intro hi (And.intro hz0 (And.intro hz1 hz2)))
 clear hi hz0 hz1 hz2
 go_enter Tryz.func13, Tryz.ntmps13
 go_wp2_with fail
 go_loopw [4, 5, 6] (fun n l i W => ∃ (k oc : Nat) (oa : Option Addr), i = .int .i64 k ∧ k ≤ N ∧ l = .slice oa k oc ∧ n = .int .i64 (cntL (s.E.take k) : Nat) ∧ Hid (RcR keep s.E w k oa oc W)) (fun _ _ i _ => N - (intOf i).toNat)
 case atStart => exact ⟨0, 0, some ⟨w.heap.size, 0, none⟩, rfl, by omega, rfl, by simp [cntL], Lib.hid ⟨Row.empty w 72 3, by have := (Step.refl [] w).hold (.cells #[] 72); simpa [blks] using this⟩⟩
 case round =>
  rename World => W
  obtain ⟨k, oc, oa, rfl, hkN, rfl, rfl, HW⟩ := hrel
  have HDW := HD.out.step HW.out.2 (by simp)
  have c0' := HDW.blk.cell 0
  simp only [List.getElem?_toArray, List.getElem?_cons_zero, List.getElem?_cons_succ] at c0'
  rw [← HN.out] at c0'
  clear c0
  by_cases hlt : k < N
  ·have hlt' : (k : Int) < N := by omega
   obtain ⟨y, hy⟩ : ∃ y, s.E[k]? = some y := ⟨_, List.getElem?_eq_getElem (by rw [← HN.out]; exact hlt)⟩
   obtain ⟨g, off, hs1⟩ := HDW.row.some_of_pos (by rw [← HN.out]; omega)
   have hr := HDW.row.rd
   rw [hs1] at hr c0'
   obtain ⟨z0, z1, z2⟩ := rd_en (E := s.E) hr hy
   have gl : g < W.heap.size := by have := World.block_lt_of_cell? _ _ z1; simpa using this
   obtain ⟨q0, hq0⟩ : ∃ q, q = cntL (s.E.take k) := ⟨_, rfl⟩
   have hq1 : q0 ≤ 1099511627776 := by
    have h3 := cntL_le (s.E.take k)
    rw [← hq0, List.length_take] at h3
    omega
   rw [← hq0]
   have HQ0 := Lib.hid hq0
   have hful : y.d.length + y.l.length ≤ 8388608 := by
    have := used_mem (List.mem_of_getElem? hy)
    have h2 := HX.out.1.used
    omega
   have HY := Lib.hid hy
   clear hr hs1 HDW hy hq0
   go_upto_region 6 with fail
   change Code.wp _ _ _ _ (W.alloc (.cells #[Str y.n, Str y.d, Str y.l] 72))
   have hB0 : Hid (Blk (W.alloc (.cells #[Str y.n, Str y.d, Str y.l] 72)) W.heap.size 72 #[Str y.n, Str y.d, Str y.l] ∧ Step [] [] W (W.alloc (.cells #[Str y.n, Str y.d, Str y.l] 72)) ∧ W.heap.size ∉ blks oa) := Lib.hid ⟨Blk.new W 72 _, (Step.refl [] W).alloc _, fun hm => by have := HW.out.1.lt _ hm; omega⟩
   obtain ⟨fb, hfb⟩ : ∃ fb, fb = W.heap.size := ⟨_, rfl⟩
   obtain ⟨V, hV⟩ : ∃ V, V = W.alloc (.cells #[Str y.n, Str y.d, Str y.l] 72) := ⟨_, rfl⟩
   rw [← hV, ← hfb] at hB0
   rw [← hV, ← hfb]
   have HFB := Lib.hid hfb
   clear hV hfb z0 z1 z2 gl c0'
   have b0 := hB0.out.1.cell 0
   have b1 := hB0.out.1.cell 1
   have b2 := hB0.out.1.cell 2
   simp only [List.getElem?_toArray, List.getElem?_cons_zero, List.getElem?_cons_succ] at b0 b1 b2
   have e1 := hB0.out.1.frozen 1
   have e2 := hB0.out.1.frozen 2
   have el := hB0.out.1.lt
   by_cases hl0 : y.l.length = 0
   ·have hl0d : decide (0 < y.l.length) = false := decide_eq_false (by omega)
    have hl0i : decide ((0 : Int) < (y.l.length : Int)) = false := decide_eq_false (by omega)
    have HL0 : Hid (y.l = []) := Lib.hid (List.eq_nil_of_length_eq_zero hl0)
    clear hl0
    go_upto_region 13 with fail
    have HX9 : Hid (Blk (V.setCell ⟨fb, 2, none⟩ (.string ⟨#[]⟩)) fb 72 #[Str y.n, Str (y.d), Str []] ∧ Step [] [] W (V.setCell ⟨fb, 2, none⟩ (.string ⟨#[]⟩))) := Lib.hid ⟨(by simpa using hB0.out.1.set 2 (.string ⟨#[]⟩)), hB0.out.2.1.setCell (p := ⟨fb, 2, none⟩) (.inr (by simp [HFB.out])) _⟩
    obtain ⟨X, hX⟩ : ∃ X, X = V.setCell ⟨fb, 2, none⟩ (.string ⟨#[]⟩) := ⟨_, rfl⟩
    rw [← hX] at HX9
    rw [← hX]
    have HZ9 : Hid (crashF keep (cntL (s.E.take k)) y = ⟨y.n, y.d, []⟩) := Lib.hid (by rw [crashF, if_pos HL0.out]; have := HL0.out; cases y; simp_all)
    clear hX b0 b1 b2 e1 e2 el
    have b0 := HX9.out.1.cell 0
    have b1 := HX9.out.1.cell 1
    have b2 := HX9.out.1.cell 2
    simp only [List.getElem?_toArray, List.getElem?_cons_zero, List.getElem?_cons_succ] at b0 b1 b2
    have el := HX9.out.1.lt
    go_upto_region 4 with (at_builtin; refine wpList_append_row rfl (.tmp 59) (.tmp 61) 43 43 rfl 72 i0 _ 3 48 Tryz.underlying43 HI.out.1 HI.out.2.1 HI.out.2.2.1 HI.out.2.2.2 rfl rfl ((HW.out.1.step HX9.out.2 (by simp)).alloc _) rfl (Src.rd 43 72 Tryz.underlying43 (rd_blk' (xs := enVs [⟨y.n, y.d, []⟩]) (Blk.new X 72 _) 3 1 rfl) (enVs_one _)) (by unfold maxLen; omega) (by omega) (by omega) ?_; intro a9 c9 w9 hr9 st9; have H9 : Hid (RcR keep s.E w (k + 1) a9 c9 w9) := Lib.hid (HW.out.next HY.out HZ9.out (HX9.out.2.alloc _) hr9 st9); clear hr9 st9)
    clear b0 b1 b2 el
    go_wp2_with fail
    go_roundw
    case rel => exact ⟨k + 1, c9, a9, by go_num, by omega, rfl, by rw [cnt_succ HY.out, if_pos HL0.out, ← HQ0.out], H9⟩
    case measure => simp [intOf]; omega
   ·have hl0d : decide (0 < y.l.length) = true := decide_eq_true (by omega)
    have hl0i : decide ((0 : Int) < (y.l.length : Int)) = true := decide_eq_true (by omega)
    have HLN : Hid (¬ y.l = []) := Lib.hid (fun e => hl0 (by rw [e]; rfl))
    by_cases hk0 : keep.length = 0
    ·have hk0d : decide (0 < keep.length) = false := decide_eq_false (by omega)
     have hk0i : decide ((0 : Int) < (keep.length : Int)) = false := decide_eq_false (by omega)
     have HK0 := Lib.hid hk0
     clear hk0
     have e1d := hB0.out.1.drew.frozen 1
     have b1d := hB0.out.1.drew.cell 1
     have b2d := hB0.out.1.drew.cell 2
     have eld := hB0.out.1.drew.lt
     simp only [List.getElem?_toArray, List.getElem?_cons_zero, List.getElem?_cons_succ] at b1d b2d
     have h0l : (0 : Int) ≤ (y.l.length : Int) := by omega
     have hcat : y.d.length + ([] : List UInt8).length ≤ 9223372036854775807 := by simp; omega
     have hcat2 : y.d.length ≤ 9223372036854775807 := by omega
     go_upto_region 10 with fail
     refine still_tail 7 (by kernel_rfl) (by kernel_rfl) ?_
     simp only [List.take_succ_cons, List.take_zero, List.drop_succ_cons, List.drop_zero]
     repeat still_step
     refine wpStill_nil ?_
     go_upto_region 13 with fail
     have HX9 : Hid (Blk (((V.setCell ⟨fb, 1, none⟩ (Str (y.d))).setCell ⟨fb, 2, none⟩ (.string ⟨#[]⟩)).drew) fb 72 #[Str y.n, Str (y.d), Str []] ∧ Step [] [] W (((V.setCell ⟨fb, 1, none⟩ (Str (y.d))).setCell ⟨fb, 2, none⟩ (.string ⟨#[]⟩)).drew)) := Lib.hid ⟨(by have := ((hB0.out.1.set 1 (Str (y.d))).set 2 (.string ⟨#[]⟩)).drew; simpa using this), ((hB0.out.2.1.setCell (p := ⟨fb, 1, none⟩) (.inr (by simp [HFB.out])) _).setCell (p := ⟨fb, 2, none⟩) (.inr (by simp [HFB.out])) _).drew⟩
     obtain ⟨X, hX⟩ : ∃ X, X = ((V.setCell ⟨fb, 1, none⟩ (Str (y.d))).setCell ⟨fb, 2, none⟩ (.string ⟨#[]⟩)).drew := ⟨_, rfl⟩
     rw [← hX] at HX9
     rw [← hX]
     have HZ9 : Hid (crashF keep (cntL (s.E.take k)) y = ⟨y.n, y.d, []⟩) := Lib.hid (by rw [crashF, if_neg HLN.out, if_pos (List.eq_nil_of_length_eq_zero HK0.out)])
     clear hX b0 b1 b2 e1 e2 el
     have b0 := HX9.out.1.cell 0
     have b1 := HX9.out.1.cell 1
     have b2 := HX9.out.1.cell 2
     simp only [List.getElem?_toArray, List.getElem?_cons_zero, List.getElem?_cons_succ] at b0 b1 b2
     have el := HX9.out.1.lt
     go_upto_region 4 with (at_builtin; refine wpList_append_row rfl (.tmp 59) (.tmp 61) 43 43 rfl 72 i0 _ 3 48 Tryz.underlying43 HI.out.1 HI.out.2.1 HI.out.2.2.1 HI.out.2.2.2 rfl rfl ((HW.out.1.step HX9.out.2 (by simp)).alloc _) rfl (Src.rd 43 72 Tryz.underlying43 (rd_blk' (xs := enVs [⟨y.n, y.d, []⟩]) (Blk.new X 72 _) 3 1 rfl) (enVs_one _)) (by unfold maxLen; omega) (by omega) (by omega) ?_; intro a9 c9 w9 hr9 st9; have H9 : Hid (RcR keep s.E w (k + 1) a9 c9 w9) := Lib.hid (HW.out.next HY.out HZ9.out (HX9.out.2.alloc _) hr9 st9); clear hr9 st9)
     clear b0 b1 b2 el
     go_wp2_with fail
     go_roundw
     case rel => exact ⟨k + 1, c9, a9, by go_num, by omega, rfl, by rw [cnt_succ HY.out, if_neg HLN.out, ← HQ0.out]; go_num, H9⟩
     case measure => simp [intOf]; omega
    ·have hk0d : decide (0 < keep.length) = true := decide_eq_true (by omega)
     have hk0i : decide ((0 : Int) < (keep.length : Int)) = true := decide_eq_true (by omega)
     obtain ⟨J, hJ⟩ : ∃ J, J = q0 % keep.length := ⟨_, rfl⟩
     have hJl : J < keep.length := by rw [hJ]; exact Nat.mod_lt _ (by omega)
     have hJi : (J : Int) < (keep.length : Int) := by omega
     obtain ⟨kv, hkv⟩ : ∃ v, keep[J]? = some v := ⟨_, List.getElem?_eq_getElem hJl⟩
     have hrd := (HX.out.2.step0 HW.out.2).step0 hB0.out.2.1
     obtain ⟨g2, off2, hka⟩ := hrd.some_ (by omega)
     have hrd2 := hrd
     rw [hka] at hrd2
     have y0 := hrd2.cell g2 off2 none rfl J _ (by rw [List.getElem?_map, hkv]; rfl)
     have yl : g2 < V.heap.size := by have := World.block_lt_of_cell? _ _ y0; simpa using this
     have HKA := Lib.hid hka
     rw [hka]
     have hk1 : ¬ (keep.length : Int) = 0 := by omega
     have ht1 : (q0 : Int).tmod (keep.length : Int) = (J : Int) := by rw [hJ, Int.ofNat_tmod]
     obtain ⟨U, hU⟩ : ∃ U, U = (kv % 18446744073709551616).toNat := ⟨_, rfl⟩
     have hw1 : IntKind.u64.wrap kv = (U : Int) := by rw [hU]; simp [IntKind.wrap, IntKind.bits, IntKind.signed]; omega
     obtain ⟨Q, hQ⟩ : ∃ Q, Q = U % (y.l.length + 1) := ⟨_, rfl⟩
     have hQl : Q ≤ y.l.length := by rw [hQ]; have := Nat.mod_lt U (show 0 < y.l.length + 1 by omega); omega
     have hQi : (Q : Int) ≤ (y.l.length : Int) := by omega
     have hw2 : IntKind.u64.wrap ((y.l.length : Int) + 1) = (y.l.length : Int) + 1 := IntWalk.u64_in _ (by omega)
     have ht2 : (U : Int).tmod ((y.l.length : Int) + 1) = (Q : Int) := by
      rw [hQ]
      exact (Int.ofNat_tmod U (y.l.length + 1)).symm
     have hn2 : ¬ (y.l.length : Int) + 1 = 0 := by omega
     have hw3 : IntKind.i64.wrap (Q : Int) = (Q : Int) := IntWalk.i64_in _ (by omega)
     have HJ := Lib.hid (And.intro hJ (And.intro hkv (And.intro hU hQ)))
     have HKN := Lib.hid (show ¬ keep = [] by rintro rfl; simp at hJl)
     clear hk0 hJ hkv hrd hrd2 hU hQ hka
     go_upto_region 9 with fail
     refine wp_region_quiet_lit (by kernel_rfl) (by kernel_rfl) ?_
     repeat go_big_quiet_step (fail)
     refine wpQuiet_nil ?_
     intro V2 hw'
     obtain ⟨nq, hW⟩ := hw'
     have hB2 : Hid (Blk V2 fb 72 #[Str y.n, Str y.d, Str y.l] ∧ Step [] [] W V2 ∧ W.heap.size ≤ fb) := Lib.hid (by rw [hW]; exact ⟨hB0.out.1.step ((Step.refl [] V).drewN nq) (by simp), hB0.out.2.1.drewN nq, by rw [HFB.out]; exact Nat.le_refl _⟩)
     clear b0 b1 b2 e1 e2 el hW y0 yl hw1 hw2 hw3 ht1 ht2 hn2 hk1
     have b0 := hB2.out.1.cell 0
     have b1 := hB2.out.1.cell 1
     have b2 := hB2.out.1.cell 2
     have e1 := hB2.out.1.frozen 1
     have e2 := hB2.out.1.frozen 2
     have el := hB2.out.1.lt
     have e1d := hB2.out.1.drew.frozen 1
     have b1d := hB2.out.1.drew.cell 1
     have b2d := hB2.out.1.drew.cell 2
     have eld := hB2.out.1.drew.lt
     simp only [List.getElem?_toArray, List.getElem?_cons_zero, List.getElem?_cons_succ] at b0 b1 b2 b1d b2d
     obtain ⟨tk, htk⟩ : ∃ tk, y.l.take Q = tk := ⟨_, rfl⟩
     have hcat : y.d.length + tk.length ≤ 9223372036854775807 := by rw [← htk, List.length_take]; omega
     go_upto_region 10 with fail
     refine still_tail 7 (by kernel_rfl) (by kernel_rfl) ?_
     simp only [List.take_succ_cons, List.take_zero, List.drop_succ_cons, List.drop_zero]
     repeat still_step
     refine wpStill_nil ?_
     have HTK := Lib.hid htk
     go_upto_region 13 with fail
     clear e1d b1d b2d eld htk hcat
     rw [← HKA.out]
     have HX9 : Hid (Blk (((V2.setCell ⟨fb, 1, none⟩ (Str (y.d ++ tk))).setCell ⟨fb, 2, none⟩ (.string ⟨#[]⟩)).drew) fb 72 #[Str y.n, Str (y.d ++ tk), Str []] ∧ Step [] [] W (((V2.setCell ⟨fb, 1, none⟩ (Str (y.d ++ tk))).setCell ⟨fb, 2, none⟩ (.string ⟨#[]⟩)).drew)) := Lib.hid ⟨(by have := ((hB2.out.1.set 1 (Str (y.d ++ tk))).set 2 (.string ⟨#[]⟩)).drew; simpa using this), ((hB2.out.2.1.setCell (p := ⟨fb, 1, none⟩) (.inr hB2.out.2.2) _).setCell (p := ⟨fb, 2, none⟩) (.inr hB2.out.2.2) _).drew⟩
     obtain ⟨X, hX⟩ : ∃ X, X = ((V2.setCell ⟨fb, 1, none⟩ (Str (y.d ++ tk))).setCell ⟨fb, 2, none⟩ (.string ⟨#[]⟩)).drew := ⟨_, rfl⟩
     rw [← hX] at HX9
     rw [← hX]
     have HZ9 : Hid (crashF keep (cntL (s.E.take k)) y = ⟨y.n, y.d ++ tk, []⟩) := Lib.hid (by obtain ⟨y1, y2, y3, y4⟩ := HJ.out; rw [crashF, if_neg HLN.out, if_neg HKN.out, ← HQ0.out, keepK, ← y1, List.getD_eq_getElem?_getD, y2, ← HTK.out, y4, y3]; rfl)
     clear hX b0 b1 b2 e1 e2 el
     have b0 := HX9.out.1.cell 0
     have b1 := HX9.out.1.cell 1
     have b2 := HX9.out.1.cell 2
     simp only [List.getElem?_toArray, List.getElem?_cons_zero, List.getElem?_cons_succ] at b0 b1 b2
     have el := HX9.out.1.lt
     go_upto_region 4 with (at_builtin; refine wpList_append_row rfl (.tmp 59) (.tmp 61) 43 43 rfl 72 i0 _ 3 48 Tryz.underlying43 HI.out.1 HI.out.2.1 HI.out.2.2.1 HI.out.2.2.2 rfl rfl ((HW.out.1.step HX9.out.2 (by simp)).alloc _) rfl (Src.rd 43 72 Tryz.underlying43 (rd_blk' (xs := enVs [⟨y.n, y.d ++ tk, []⟩]) (Blk.new X 72 _) 3 1 rfl) (enVs_one _)) (by unfold maxLen; omega) (by omega) (by omega) ?_; intro a9 c9 w9 hr9 st9; have H9 : Hid (RcR keep s.E w (k + 1) a9 c9 w9) := Lib.hid (HW.out.next HY.out HZ9.out (HX9.out.2.alloc _) hr9 st9); clear hr9 st9)
     clear b0 b1 b2 el
     go_wp2_with fail
     go_roundw
     case rel => exact ⟨k + 1, c9, a9, by go_num, by omega, rfl, by rw [cnt_succ HY.out, if_neg HLN.out, ← HQ0.out]; go_num, H9⟩
     case measure => simp [intOf]; omega
  ·have hnl : ¬ (k : Int) < N := by omega
   have hke : Hid (k = s.E.length) := Lib.hid (by rw [← HN.out]; omega)
   have HDV := Lib.hid HDW
   have b0 := HDW.blk.frozen 0
   have b2 := HDW.blk.frozen 2
   have b3 := HDW.blk.frozen 3
   have cc := HDW.blk.cell 2
   have cd := HDW.blk.cell 3
   simp only [List.getElem?_toArray, List.getElem?_cons_zero, List.getElem?_cons_succ] at cc cd
   have dl := HDW.blk.lt
   clear HDW
   go_wp2_with fail
   have hdb : d ∉ blks oa := fun hm => by
    rcases HW.out.2.fresh d hm with h | h
    ·simp at h
    ·have := HD.out.blk.lt; omega
   obtain ⟨v10, hv10⟩ : ∃ v, v = ((W.setCell ⟨d, 0, none⟩ (.slice oa k oc)).setCell ⟨d, 3, none⟩ (.bool false)).setCell ⟨d, 2, none⟩ (.int .i64 (-1)) := ⟨_, rfl⟩
   have hkk : Step [d] [d] W v10 := by
    rw [hv10]
    exact (((Step.refl [d] W).setCell (p := ⟨d, 0, none⟩) (.inl (by simp)) _).setCell (p := ⟨d, 3, none⟩) (.inl (by simp)) _).setCell (p := ⟨d, 2, none⟩) (.inl (by simp)) _
   have hbk := ((HDV.out.blk.set 0 (.slice oa k oc)).set 3 (.bool false)).set 2 (.int .i64 (-1))
   rw [← hv10] at hbk ⊢
   have hs1 : Step S (d :: blks oa) w v10 := (HW.out.2.wide (T := S) (S'' := d :: blks oa) (by simp) (by
    intro j hj
    rcases List.mem_cons.1 hj with rfl | hj
    ·exact .inl HD.out.memd
    ·exact .inr (.inl hj))).trans (hkk.wide (T := d :: blks oa) (by simp) (by intro j hj; exact .inl hj))
   have hlen : (crashE keep 0 s.E).length = k := by rw [crashE_len, ← hke.out]
   refine bodyPost_end (results_none rfl _ _ _) rfl ⟨rfl, d :: blks oa, ⟨oa, oc, rfl, ?_, ?_, hdb⟩, hs1⟩
   ·show Blk v10 d 45 (rdc (.slice oa (crashE keep 0 s.E).length oc) s.room (-1) false)
    rw [hlen]
    simpa using hbk
   ·show Row v10 3 oa (crashE keep 0 s.E).length oc (enVs (crashE keep 0 s.E))
    have h9 := HW.out.1
    rw [hke.out, List.take_length, ← hke.out] at h9
    rw [hlen]
    exact h9.step hkk (by intro j hj hm; simp only [List.mem_singleton] at hm; exact hdb (hm ▸ hj))

end Go.Proofs.YtjdgdmlhipbaaaaGreatDoor
namespace Go.Proofs.YtjdgdmlhipbaaaaGreatDoor
open Go.RowKit Go.Maps
set_option linter.unusedSimpArgs false
set_option linter.unusedVariables false
set_option maxRecDepth 100000

/-- A disk of at most k files, whose names are short. -/
structure Ok6 (s : St) (k : Nat) : Prop where
 b : StB s
 len : s.E.length ≤ k
 nm : ∀ f ∈ s.E, f.n.length ≤ 1099511627776
theorem used_map_le (E : List En) (g : En → En) (h : ∀ f ∈ E, (g f).d.length + (g f).l.length ≤ f.d.length + f.l.length) : usedE (E.map g) ≤ usedE E := by
 induction E with
 | nil => simp [usedE]
 | cons x r ih =>
  rw [List.map_cons, used_cons, used_cons]
  have h1 := h x (by simp)
  have h2 := ih fun f hf => h f (by simp [hf])
  omega
theorem used_emod (E : List En) (n : List UInt8) (g : En → En) (h : ∀ f, (g f).d.length + (g f).l.length ≤ f.d.length + f.l.length) : usedE (emod E n g) ≤ usedE E := by
 unfold emod
 exact used_map_le E _ fun f _ => by split; exact h f; exact Nat.le_refl _
theorem used_edel (E : List En) (n : List UInt8) : usedE (edel E n) ≤ usedE E := by
 unfold edel
 induction E with
 | nil => simp [usedE]
 | cons x r ih =>
  rw [List.filter_cons]
  split
  ·rw [used_cons, used_cons]; omega
  ·rw [used_cons]; omega
theorem crashF_le (keep : List Int) (i : Nat) (f : En) : (crashF keep i f).d.length + (crashF keep i f).l.length ≤ f.d.length + f.l.length := by
 unfold crashF
 split
 ·exact Nat.le_refl _
 ·split
  ·simp
  ·simp [List.length_append, List.length_take]; omega
theorem used_crash (keep : List Int) : ∀ (i : Nat) (E : List En), usedE (crashE keep i E) ≤ usedE E
 | _, [] => by simp [crashE]
 | i, f :: r => by
  simp only [crashE]
  rw [used_cons, used_cons]
  have h1 := crashF_le keep i f
  have h2 := used_crash keep (if f.l = [] then i else i + 1) r
  omega
theorem nm_emod {E : List En} {n : List UInt8} {g : En → En} (hg : ∀ f, (g f).n = f.n) {M : Nat} (h : ∀ f ∈ E, f.n.length ≤ M) : ∀ f ∈ emod E n g, f.n.length ≤ M := by
 intro f hf
 obtain ⟨y, hy, rfl⟩ := List.mem_map.1 hf
 split
 ·rw [hg]; exact h y hy
 ·exact h y hy
theorem eins_mem {x f : En} : ∀ {E : List En}, f ∈ eins x E → f = x ∨ f ∈ E
 | [], h => by simp [eins] at h; exact .inl h
 | y :: r, h => by
  unfold eins at h
  split at h
  ·simp at h; rcases h with h | h | h <;> simp [h]
  ·rcases List.mem_cons.1 h with h | h
   ·simp [h]
   ·rcases eins_mem h with h | h <;> simp [h]
theorem nm_add {E : List En} {n b : List UInt8} {M : Nat} (hn : n.length ≤ M) (h : ∀ f ∈ E, f.n.length ≤ M) : ∀ f ∈ addE E n b, f.n.length ≤ M := by
 unfold addE
 cases eget E n with
 | none =>
  intro f hf
  rcases eins_mem hf with rfl | hf
  ·exact hn
  ·exact h f hf
 | some y => exact nm_emod (g := fun f => ⟨f.n, f.d, f.l ++ b⟩) (fun _ => rfl) h
theorem nm_crash {keep : List Int} {i : Nat} {E : List En} {M : Nat} (h : ∀ f ∈ E, f.n.length ≤ M) : ∀ f ∈ crashE keep i E, f.n.length ≤ M := by
 intro f hf
 have hm : f.n ∈ (crashE keep i E).map En.n := List.mem_map.2 ⟨f, hf, rfl⟩
 rw [crashE_names] at hm
 obtain ⟨g, hg, e⟩ := List.mem_map.1 hm
 rw [← e]; exact h g hg
theorem ok_append {s : St} {k : Nat} (h : Ok6 s k) (hr : ERis s.E) (n b : List UInt8) (hn : n.length ≤ 1099511627776) (hk : k < 1099511627776) : Ok6 (appendS s n b).2 (k + 1) := by
 have hb := h.b.burn
 have key : ∀ s', s'.E = s.E → StB s' → Ok6 s' (k + 1) := fun s' e hs => ⟨hs, by rw [e]; have := h.len; omega, by rw [e]; exact h.nm⟩
 unfold appendS
 split
 ·exact key s rfl h.b
 ·split
  ·exact key s rfl h.b
  ·split
   ·exact key s rfl h.b
   ·rename_i hfull
    split
    ·exact key s.burn rfl hb
    ·have hu := used_add hr n b
     refine ⟨⟨h.b.room, hb.fuse, ?_, ?_⟩, ?_, nm_add hn h.nm⟩
     ·show usedE (addE s.E n b) ≤ 8388608
      rw [hu]
      have := h.b.room
      omega
     ·exact Nat.le_trans (len_add s.E n b) (by have := h.len; omega)
     ·exact Nat.le_trans (len_add s.E n b) (by have := h.len; omega)
theorem ok_file {s : St} {k : Nat} (h : Ok6 s k) (n : List UInt8) (g : En → List En) (hu : ∀ f, usedE (g f) ≤ usedE s.E) (hl : ∀ f, (g f).length ≤ s.E.length) (hm : ∀ f, ∀ x ∈ g f, x.n.length ≤ 1099511627776) : Ok6 (onFile s n g).2 k := by
 have hb := h.b.burn
 unfold onFile
 split
 ·exact h
 ·split
  ·exact h
  ·rename_i f _
   split
   ·exact ⟨hb, h.len, h.nm⟩
   ·exact ⟨⟨h.b.room, hb.fuse, Nat.le_trans (hu f) h.b.used, Nat.le_trans (hl f) h.b.len⟩, Nat.le_trans (hl f) h.len, hm f⟩
theorem ok_sync {s : St} {k : Nat} (h : Ok6 s k) (n : List UInt8) : Ok6 (syncS s n).2 k :=
 ok_file h n _ (fun _ => used_emod _ _ _ fun f => by simp) (fun _ => by simp [emod]) (fun _ => nm_emod (g := fun f => ⟨f.n, f.d ++ f.l, []⟩) (fun _ => rfl) h.nm)
theorem ok_remove {s : St} {k : Nat} (h : Ok6 s k) (n : List UInt8) : Ok6 (removeS s n).2 k :=
 ok_file h n _ (fun _ => used_edel _ _) (fun _ => List.length_filter_le _ _) (fun _ x hx => h.nm x (List.mem_filter.1 hx).1)
theorem cutF_le (k : Nat) (f : En) : (cutF k f).d.length + (cutF k f).l.length ≤ f.d.length + f.l.length := by
 unfold cutF
 split
 ·simp [List.length_take]; omega
 ·simp [List.length_take]; omega
theorem cutF_n (k : Nat) (f : En) : (cutF k f).n = f.n := by unfold cutF; split <;> rfl
theorem ok_cut {s : St} {k : Nat} (h : Ok6 s k) (n : List UInt8) (m : Int) : Ok6 (cutS s n m).2 k := by
 have hb := h.b.burn
 unfold cutS
 split
 ·exact h
 ·split
  ·exact h
  ·split
   ·exact h
   ·split
    ·exact ⟨hb, h.len, h.nm⟩
    ·exact ⟨⟨h.b.room, hb.fuse, Nat.le_trans (used_emod _ _ _ fun f => cutF_le _ f) h.b.used, by simp [emod]; exact h.b.len⟩, by simp [emod]; exact h.len, nm_emod (fun f => cutF_n _ f) h.nm⟩
theorem ok_crash {s : St} {k : Nat} (h : Ok6 s k) (keep : List Int) : Ok6 (crashS s keep) k :=
 ⟨⟨h.b.room, (by show -1 ≤ (-1 : Int) ∧ (-1 : Int) ≤ 9223372036854775807; omega), Nat.le_trans (used_crash keep 0 s.E) h.b.used, by show (crashE keep 0 s.E).length ≤ _; rw [crashE_len]; exact h.b.len⟩, by show (crashE keep 0 s.E).length ≤ _; rw [crashE_len]; exact h.len, nm_crash h.nm⟩
theorem ok_fuse {s : St} {k : Nat} (h : Ok6 s k) (n : Int) (hn : n < 9223372036854775808) : Ok6 (fuseS s n) k :=
 ⟨⟨h.b.room, (by show -1 ≤ max n (-1) ∧ max n (-1) ≤ 9223372036854775807; omega), h.b.used, h.b.len⟩, h.len, h.nm⟩
theorem ok_room {s : St} {k : Nat} (h : Ok6 s k) (n : Int) : Ok6 (roomS s n).2 k := by
 unfold roomS
 split
 ·rename_i hk
  simp only [okRoom, Bool.and_eq_true, decide_eq_true_eq] at hk
  exact ⟨⟨hk, h.b.fuse, h.b.used, h.b.len⟩, h.len, h.nm⟩
 ·exact h
theorem ok_more {s : St} {k : Nat} (h : Ok6 s k) : Ok6 s (k + 1) := ⟨h.b, Nat.le_succ_of_le h.len, h.nm⟩
theorem ok_new {room : Int} (h : okRoom room = true) : Ok6 (newS room) 0 := by
 simp only [okRoom, Bool.and_eq_true, decide_eq_true_eq] at h
 exact ⟨⟨h, (by show -1 ≤ (-1 : Int) ∧ (-1 : Int) ≤ 9223372036854775807; omega), (by show 0 ≤ 8388608; omega), Nat.zero_le _⟩, Nat.zero_le _, by intro f hf; simp [newS] at hf⟩

/-- The two disks, apart from one another; nothing but them has turned since w0. -/
structure Pd (w0 W : World) (S S2 : List Nat) (d rd : Nat) (s s2 : St) : Prop where
 dk : Dk W S d s
 rf : Rf W S2 rd s2
 dis : ∀ x ∈ S, x ∉ S2
 st : Step [] (S ++ S2) w0 W
section
variable {w0 W W1 : World} {S S' S2 : List Nat} {d rd : Nat} {s s' s2 : St}
theorem Pd.prog (h : Pd w0 W S S2 d rd s s2) (hD : Dk W1 S' d s') (k : Step S S' W W1) : Pd w0 W1 S' S2 d rd s' s2 := by
 refine ⟨hD, h.rf.step k (fun x hx hm => h.dis x hm hx), fun x hx hm => ?_, h.st.trans (k.wide (T := S ++ S2) (by intro j hj; simp [hj]) (by intro j hj; rcases List.mem_append.1 hj with hj | hj; exact .inr (.inl hj); exact .inl (by simp [hj])))⟩
 rcases k.fresh x hx with h1 | h1
 ·exact h.dis x h1 hm
 ·have := h.rf.lt x hm; omega
theorem Pd.ref (h : Pd w0 W S S2 d rd s s2) {S2' : List Nat} {s2' : St} (hR : Rf W1 S2' rd s2') (k : Step S2 S2' W W1) : Pd w0 W1 S S2' d rd s s2' := by
 refine ⟨h.dk.step k (fun x hx hm => h.dis x hx hm), hR, fun x hx hm => ?_, h.st.trans (k.wide (T := S ++ S2) (by intro j hj; simp [hj]) (by intro j hj; rcases List.mem_append.1 hj with hj | hj; exact .inl (by simp [hj]); exact .inr (.inl hj)))⟩
 rcases k.fresh x hm with h1 | h1
 ·exact h.dis x hx h1
 ·have := h.dk.lt x hx; omega
theorem Pd.keep (h : Pd w0 W S S2 d rd s s2) {T : List Nat} (k : Step [] T W W1) : Pd w0 W1 S S2 d rd s s2 :=
 ⟨h.dk.keep k, h.rf.keep k, h.dis, h.st.trans ((k.drop (S'' := []) (by simp)).keep _)⟩
theorem Pd.low (h : Pd w0 W S S2 d rd s s2) {g : Nat} (hg : g < w0.heap.size) : g ∉ S ∧ g ∉ S2 := by
 constructor <;> intro hm
 ·rcases h.st.fresh g (by simp [hm]) with h1 | h1
  ·simp at h1
  ·omega
 ·rcases h.st.fresh g (by simp [hm]) with h1 | h1
  ·simp at h1
  ·omega
/-- What lies among the blocks of w0 is as it was. -/
theorem Pd.rdK (h : Pd w0 W S S2 d rd s s2) {sz n : Nat} {a : Option Addr} {xs : List Value} (hr : Rd w0 sz a n xs) : Rd W sz a n xs := hr.step0 h.st
theorem rd_low {w : World} {n : Nat} {a : Option Addr} {xs : List Value} (hr : Rd w 1 a n xs) (hn : 0 < n) : ∀ g, g ∈ blks a → g < w.heap.size := by
 intro g hg
 obtain ⟨g', off, rfl⟩ := hr.some_ hn
 simp [blks] at hg
 subst hg
 have hx : 0 < xs.length := by rw [hr.len]; omega
 obtain ⟨u, hu⟩ : ∃ u, xs[0]? = some u := ⟨_, List.getElem?_eq_getElem hx⟩
 have := World.block_lt_of_cell? _ _ (hr.cell g off none rfl 0 u hu)
 simpa using this
end
end Go.Proofs.YtjdgdmlhipbaaaaGreatDoor
