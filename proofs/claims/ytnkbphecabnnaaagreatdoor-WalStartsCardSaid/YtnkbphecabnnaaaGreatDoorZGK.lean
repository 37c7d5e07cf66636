/-
 A disk in memory: its struct, its map, its files; New, Down, burns, find, all, Fuse, Room; and each on no disk. No condition but lengths.
-/
import Derived.Test.YtnkbphecabnnaaaGreatDoorZGA
import Derived.Test.YtnkbphecabnnaaaGreatDoorZGF
import Derived.Test.YtnkbphecabnnaaaGreatDoorZGM
import Derived.Test.YtnkbphecabnnaaaGreatDoorZDkShelf
import Derived.Deep.DeepCutAuto
import Derived.Deep.CutBlock
namespace Go.Proofs.YtnkbphecabnnaaaGreatDoor
open Go.RowKit Go.Maps
set_option linter.unusedSimpArgs false
set_option linter.unusedVariables false
set_option maxRecDepth 100000

abbrev flc (d l : List UInt8) : Array Value := #[Str d, Str l]
abbrev dkc (m : Nat) (room fuse : Int) (off : Bool) : Array Value := #[.map (some m), .int .i64 room, .int .i64 fuse, .bool off]
/-- The disk at block d, its map m, its files L; S: the blocks that it holds. -/
structure Dkm (w : World) (S : List Nat) (d m : Nat) (L : List Fil) (room fuse : Int) (off : Bool) : Prop where
 hS : S = d :: m :: L.map Fil.b
 blk : Blk w d 59 (dkc m room fuse off)
 own : w.ownsMap Tryz.prog 9 ptrElem m L.length (dat L)
 fil : ∀ f ∈ L, Blk w f.b 64 (flc f.d f.l)
 ris : Ris L
 nod : (L.map Fil.b).Nodup
/-- .. its files without their blocks. -/
def Dk (w : World) (S : List Nat) (d : Nat) (s : St) : Prop := ∃ m L, Dkm w S d m L s.room s.fuse s.off ∧ L.map Fil.en = s.E

section
variable {w w' : World} {S S' S'' : List Nat} {d m : Nat} {L : List Fil} {room fuse : Int} {off : Bool}
theorem Dkm.m_ne (h : Dkm w S d m L room fuse off) {g : Nat} {t : TypeId} {cs : Array Value} (hb : Blk w g t cs) : m ≠ g := by
 obtain ⟨es, clock, hm, _⟩ := h.own
 rintro rfl
 unfold Blk at hb
 rw [hb] at hm
 cases hm
theorem Dkm.f_ne (h : Dkm w S d m L room fuse off) {f : Fil} (hf : f ∈ L) : f.b ≠ d := (h.fil f hf).ne h.blk (by decide)
theorem Dkm.lt (h : Dkm w S d m L room fuse off) : ∀ k ∈ S, k < w.heap.size := by
 intro k hk
 rw [h.hS] at hk
 simp only [List.mem_cons, List.mem_map] at hk
 rcases hk with rfl | rfl | ⟨f, hf, rfl⟩
 ·exact h.blk.lt
 ·exact h.own.lt
 ·exact (h.fil f hf).lt
theorem owns_far {R : Value → Option (DataW Unit × List MemPlace)} {P : Program} {k : TypeId} {n : Nat} {D : DataW Unit} (h : w.ownsMap P k R m n D) (k' : Step S' S'' w w') (hn : m ∉ S') : w'.ownsMap P k R m n D := by
 have hl := h.lt
 obtain ⟨es, clock, hb, r⟩ := h
 exact ⟨es, clock, (k'.block m hl hn).trans hb, r⟩
/-- What turns elsewhere leaves the disk. -/
theorem Dkm.step (h : Dkm w S d m L room fuse off) (k : Step S' S'' w w') (hn : ∀ x ∈ S, x ∉ S') : Dkm w' S d m L room fuse off := by
 have e := h.hS
 refine ⟨e, h.blk.step k (hn d (by simp [e])), owns_far h.own k (hn m (by simp [e])), fun f hf => (h.fil f hf).step k (hn f.b ?_), h.ris, h.nod⟩
 rw [e]; simp only [List.mem_cons, List.mem_map]; exact .inr (.inr ⟨f, hf, rfl⟩)
/-- The struct's other cells have turned. -/
theorem Dkm.head (h : Dkm w S d m L room fuse off) (k : Step [d] [d] w w') {room' fuse' : Int} {off' : Bool} (hb : Blk w' d 59 (dkc m room' fuse' off')) : Dkm w' S d m L room' fuse' off' := by
 have hm := h.m_ne h.blk
 refine ⟨h.hS, hb, owns_far h.own k (by simpa using hm), fun f hf => (h.fil f hf).step k (by simpa using h.f_ne hf), h.ris, h.nod⟩
/-- One file has turned. -/
theorem Dkm.file {A B : List Fil} {f g : Fil} (h : Dkm w S d m (A ++ f :: B) room fuse off) (k : Step [f.b] [f.b] w w') (hn : g.n = f.n) (hbb : g.b = f.b) (hb : Blk w' f.b 64 (flc g.d g.l)) : Dkm w' S d m (A ++ g :: B) room fuse off := by
 have hf := h.fil f (by simp)
 have hm := h.m_ne hf
 have hd := h.f_ne (f := f) (by simp)
 have hnod := h.nod
 rw [List.map_append, List.map_cons] at hnod
 obtain ⟨n1, n2, n3⟩ := List.nodup_append.1 hnod
 obtain ⟨n4, n5⟩ := List.nodup_cons.1 n2
 have hdat : dat (A ++ g :: B) = dat (A ++ f :: B) := by simp [dat, ent, hn, hbb]
 refine ⟨?_, h.blk.step k (by simpa using fun e => hd e.symm), ?_, fun x hx => ?_, ris_set h.ris hn, ?_⟩
 ·rw [h.hS]; simp [hbb]
 ·rw [hdat, show (A ++ g :: B).length = (A ++ f :: B).length by simp]; exact owns_far h.own k (by simpa using hm)
 ·rcases List.mem_append.1 hx with hx | hx
  ·refine (h.fil x (by simp [hx])).step k ?_
   simp only [List.mem_singleton]
   exact n3 x.b (List.mem_map.2 ⟨x, hx, rfl⟩) f.b (by simp)
  ·rcases List.mem_cons.1 hx with rfl | hx
   ·rw [hbb]; exact hb
   ·refine (h.fil x (by simp [hx])).step k ?_
    simp only [List.mem_singleton]
    intro e
    exact n4 (List.mem_map.2 ⟨x, hx, e⟩)
 ·rw [List.map_append, List.map_cons, hbb, ← List.map_cons (f := Fil.b), ← List.map_append]; exact h.nod
theorem Dkm.memS (h : Dkm w S d m L room fuse off) {f : Fil} (hf : f ∈ L) : f.b ∈ S := by rw [h.hS]; simp only [List.mem_cons, List.mem_map]; exact .inr (.inr ⟨f, hf, rfl⟩)
theorem Dk.step {s : St} (h : Dk w S d s) (k : Step S' S'' w w') (hn : ∀ x ∈ S, x ∉ S') : Dk w' S d s := by
 obtain ⟨m, L, h1, h2⟩ := h
 exact ⟨m, L, h1.step k hn, h2⟩
theorem Dk.keep {s : St} (h : Dk w S d s) (k : Step [] S'' w w') : Dk w' S d s := h.step k (by simp)
theorem Dk.ris {s : St} (h : Dk w S d s) : ERis s.E := by obtain ⟨m, L, h1, h2⟩ := h; rw [← h2]; exact ris_en.2 h1.ris
theorem Dk.lt {s : St} (h : Dk w S d s) : ∀ k ∈ S, k < w.heap.size := by obtain ⟨m, L, h1, h2⟩ := h; exact h1.lt
end

theorem down_any (w : World) (d m : Nat) (room fuse : Int) (off : Bool) (h : Blk w d 59 (dkc m room fuse off)) : Calls Tryz.prog 24 #[.pointer (some ⟨d, 0, none⟩)] w fun e w' => e = .returned (.bool off) ∧ w = w' := by
 have c3 := h.cell 3
 simp only [List.getElem?_toArray, List.getElem?_cons_zero, List.getElem?_cons_succ] at c3
 go_enter Tryz.func24, Tryz.ntmps24
 go_wp2_with fail
 exact bodyPost_ret (results_tmp rfl _ _ _) rfl ⟨rfl, rfl⟩
theorem all_any (w : World) (b : Nat) (d l : List UInt8) (h : Blk w b 64 (flc d l)) (hs : d.length + l.length ≤ 9223372036854775807) : Calls Tryz.prog 43 #[.pointer (some ⟨b, 0, none⟩)] w fun e w' => e = .returned (Str (d ++ l)) ∧ Step [] [] w w' := by
 have c0 := h.cell 0
 have c1 := h.cell 1
 simp only [List.getElem?_toArray, List.getElem?_cons_zero, List.getElem?_cons_succ] at c0 c1
 go_enter Tryz.func43, Tryz.ntmps43
 go_wp2_with fail
 go_quiet (fail)
 go_wp2_with fail
 exact bodyPost_ret (results_tmp rfl _ _ _) rfl ⟨rfl, (Step.refl _ _).drewN _⟩
def burnF (fuse : Int) : Int := if 0 < fuse then fuse - 1 else fuse
def burnO (fuse : Int) (off : Bool) : Bool := off || decide (fuse = 0)
theorem burns_any (w : World) (d m : Nat) (room fuse : Int) (off : Bool) (h : Blk w d 59 (dkc m room fuse off)) (hf : fuse ≤ 9223372036854775807) : Calls Tryz.prog 26 #[.pointer (some ⟨d, 0, none⟩)] w fun e w' => e = .returned (.bool (burnO fuse off)) ∧ Blk w' d 59 (dkc m room (burnF fuse) (burnO fuse off)) ∧ Step [d] [d] w w' := by
 have c2 := h.cell 2
 have c3 := h.cell 3
 simp only [List.getElem?_toArray, List.getElem?_cons_zero, List.getElem?_cons_succ] at c2 c3
 have f2 := h.frozen 2
 have f3 := h.frozen 3
 have fl := h.lt
 have HB := Lib.hid h
 clear h
 go_enter Tryz.func26, Tryz.ntmps26
 by_cases h0 : fuse = 0
 ·subst h0
  go_wp2_with fail
  refine bodyPost_ret (results_tmp rfl _ _ _) rfl ⟨by simp [burnO], ?_, (Step.refl [d] w).setCell (p := ⟨d, 3, none⟩) (.inl (by simp)) _⟩
  simpa [burnO, burnF] using HB.out.set 3 (.bool true)
 ·have hd : (fuse == 0) = false := by simpa using h0
  by_cases h1 : 0 < fuse
  ·have h1d : decide (0 < fuse) = true := decide_eq_true h1
   go_wp2_with fail
   refine bodyPost_ret (results_tmp rfl _ _ _) rfl ⟨by simp [burnO, h0], ?_, (Step.refl [d] w).setCell (p := ⟨d, 2, none⟩) (.inl (by simp)) _⟩
   simpa [burnO, burnF, h0, h1] using HB.out.set 2 (.int .i64 (fuse - 1))
  ·have h1d : decide (0 < fuse) = false := decide_eq_false h1
   go_wp2_with fail
   refine bodyPost_ret (results_tmp rfl _ _ _) rfl ⟨by simp [burnO, h0], ?_, Step.refl _ _⟩
   rw [show burnF fuse = fuse from if_neg (by omega), show burnO fuse off = off by simp [burnO, h0]]
   exact HB.out
def findV (off : Bool) (g : Option Fil) : Value := if off then .tuple #[.pointer none, .int .i64 7] else match g with | some f => .tuple #[.pointer (some ⟨f.b, 0, none⟩), .int .i64 0] | none => .tuple #[.pointer none, .int .i64 8]
theorem find_any (x : List UInt8) (w : World) (S : List Nat) (d m : Nat) (L : List Fil) (room fuse : Int) (off : Bool) (h : Dkm w S d m L room fuse off) (hx : x.length ≤ 1099511627776) : Calls Tryz.prog 42 #[.pointer (some ⟨d, 0, none⟩), Str x] w fun e w' => e = .returned (findV off (fget L x)) ∧ w = w' := by
 have hl := owns_look_ok (t := 57) (e := 61) h.own Tryz.underlying9 Tryz.underlying57 (Tryz.zeroValue61 w) x (by unfold maxLen; omega)
 have c0 := h.blk.cell 0
 simp only [List.getElem?_toArray, List.getElem?_cons_zero, List.getElem?_cons_succ] at c0
 have HB := Lib.hid h
 clear h
 go_enter Tryz.func42, Tryz.ntmps42
 go_wp2_with fail
 refine (down_any w d m room fuse off HB.out.blk).mono ?_
 rintro e w1 ⟨rfl, rfl⟩
 cases off with
 | true =>
  go_wp2_with fail
  refine bodyPost_ret (v := .tuple #[.pointer none, .int .i64 7]) ?_ rfl ⟨rfl, rfl⟩
  simp [results, Tryz.results42, go_sem]
 | false =>
  cases hg : fget L x with
  | none =>
   rw [hg] at hl
   have HG := Lib.hid hg
   clear hg
   simp only at hl
   go_wp2_with fail
   refine bodyPost_ret (v := .tuple #[.pointer none, .int .i64 8]) ?_ rfl ⟨by rw [HG.out]; rfl, rfl⟩
   simp [results, Tryz.results42, go_sem]
  | some f =>
   rw [hg] at hl
   have HG := Lib.hid hg
   clear hg
   simp only at hl
   go_wp2_with fail
   refine bodyPost_ret (v := .tuple #[.pointer (some ⟨f.b, 0, none⟩), .int .i64 0]) ?_ rfl ⟨by rw [HG.out]; rfl, rfl⟩
   simp [results, Tryz.results42, go_sem]

end Go.Proofs.YtnkbphecabnnaaaGreatDoor
namespace Go.Proofs.YtnkbphecabnnaaaGreatDoor
open Go.RowKit Go.Maps
set_option linter.unusedSimpArgs false
set_option linter.unusedVariables false
set_option maxRecDepth 100000

structure StB (s : St) : Prop where
 room : 0 ≤ s.room ∧ s.room ≤ 8388608
 fuse : -1 ≤ s.fuse ∧ s.fuse ≤ 9223372036854775807
 used : usedE s.E ≤ 8388608
 len : s.E.length ≤ 1099511627776
/-- An answer by a number; the disk is what the plain words say. -/
def DkP (r : Int × St) (S : List Nat) (d : Nat) (w : World) (e : Ending) (w' : World) : Prop := e = .returned (.int .i64 r.1) ∧ ∃ S', Dk w' S' d r.2 ∧ Step S S' w w'
theorem cut_gt (f : Fil) (j i : Nat) (h : ¬ j ≤ f.d.length) (hi : j = f.d.length + i) : cutF ((j : Int)).toNat f.en = (⟨f.n, f.b, f.d, f.l.take i⟩ : Fil).en := by
 subst hi
 show (if f.d.length + i ≤ f.d.length then _ else _) = _
 rw [if_neg h]
 have e : ((f.d.length + i : Nat) : Int).toNat - f.d.length = i := by omega
 simp only [Fil.en, e]
theorem en_used {L : List Fil} {s : St} (hL : L.map Fil.en = s.E) (hB : StB s) {f : Fil} (hf : f ∈ L) : f.d.length + f.l.length ≤ 8388608 := by
 have := used_mem (E := s.E) (f := f.en) (by rw [← hL]; exact List.mem_map.2 ⟨f, hf, rfl⟩)
 have h2 := hB.used
 simp only [Fil.en] at this
 omega

theorem new_any (room : Int) (w : World) : Calls Tryz.prog 8 #[.int .i64 room] w fun e w' => ((okRoom room = true ∧ ∃ S' d, e = .returned (.tuple #[.pointer (some ⟨d, 0, none⟩), .int .i64 0]) ∧ Dk w' S' d (newS room) ∧ Step [] S' w w') ∨ (okRoom room = false ∧ e = .returned (.tuple #[.pointer none, .int .i64 1]) ∧ Step [] [] w w')) := by
 have hmm := @run_makeMap Tryz.prog
 go_enter Tryz.func8, Tryz.ntmps8
 by_cases h0 : room < 0
 ·have hd : decide (room < 0) = true := decide_eq_true h0
  have HV : Hid (okRoom room = false) := Lib.hid (by simp [okRoom]; omega)
  clear h0
  go_wp2_with fail
  refine bodyPost_ret (v := .tuple #[.pointer none, .int .i64 1]) ?_ rfl (.inr ⟨HV.out, rfl, Step.refl _ _⟩)
  simp [results, Tryz.results8, go_sem]
 have hd0 : decide (room < 0) = false := decide_eq_false h0
 by_cases h1 : (8388608 : Int) < room
 ·have hd : decide ((8388608 : Int) < room) = true := decide_eq_true h1
  have HV : Hid (okRoom room = false) := Lib.hid (by simp [okRoom]; omega)
  clear h1 h0
  go_wp2_with fail
  refine bodyPost_ret (v := .tuple #[.pointer none, .int .i64 1]) ?_ rfl (.inr ⟨HV.out, rfl, Step.refl _ _⟩)
  simp [results, Tryz.results8, go_sem]
 have hd1 : decide ((8388608 : Int) < room) = false := decide_eq_false h1
 have HV : Hid (okRoom room = true) := Lib.hid (by simp [okRoom]; omega)
 clear h0 h1
 go_wp2_with fail
 refine bodyPost_ret (v := .tuple #[.pointer (some ⟨w.heap.size + 1, 0, none⟩), .int .i64 0]) ?_ rfl (.inl ⟨HV.out, [w.heap.size + 1, w.heap.size], w.heap.size + 1, rfl, ?_, ?_⟩)
 ·simp [results, Tryz.results8, go_sem]
 ·have hb := Blk.new (w.alloc (.map #[] 0)) 59 (dkc w.heap.size room (-1) false)
  rw [World.size_alloc] at hb
  refine ⟨w.heap.size, [], ⟨rfl, hb, ?_, by simp, List.Pairwise.nil, by simp⟩, rfl⟩
  exact (World.ownsMap_made w Tryz.prog 9 ptrElem).alloc _
 ·exact ((Step.refl [] w).alloc _).alloc _ |>.wide (by simp) (by intro k hk; simp only [List.mem_cons, List.not_mem_nil, or_false] at hk; rcases hk with rfl | rfl <;> exact .inr (.inr (by omega)))

theorem fuse_any (n : Int) (w : World) (S : List Nat) (d : Nat) (s : St) (h : Dk w S d s) : Calls Tryz.prog 20 #[.pointer (some ⟨d, 0, none⟩), .int .i64 n] w fun e w' => e = .returned (.tuple #[]) ∧ Dk w' S d (fuseS s n) ∧ Step S S w w' := by
 obtain ⟨m, L, h1, h2⟩ := h
 have c2 := h1.blk.cell 2
 simp only [List.getElem?_toArray, List.getElem?_cons_zero, List.getElem?_cons_succ] at c2
 have f2 := h1.blk.frozen 2
 have fl := h1.blk.lt
 have HB := Lib.hid (And.intro h1 h2)
 clear h1 h2
 go_enter Tryz.func20, Tryz.ntmps20
 go_wp2_with fail
 have hk : Step [d] [d] w (w.setCell ⟨d, 2, none⟩ (.int .i64 (max n (-1)))) := (Step.refl [d] w).setCell (p := ⟨d, 2, none⟩) (.inl (by simp)) _
 refine bodyPost_end (results_none rfl _ _ _) rfl ⟨rfl, ⟨m, L, HB.out.1.head hk ?_, HB.out.2⟩, hk.wide (by intro k hk; simp only [List.mem_singleton] at hk; rw [hk, HB.out.1.hS]; simp) (by intro k hk; exact .inl hk)⟩
 simpa [fuseS] using HB.out.1.blk.set 2 (.int .i64 (max n (-1)))
theorem Dkm.drop {w w' : World} {S : List Nat} {d m : Nat} {A B : List Fil} {f : Fil} {room fuse : Int} {off : Bool} (h : Dkm w S d m (A ++ f :: B) room fuse off) {n : Nat} (ho : w'.ownsMap Tryz.prog 9 ptrElem m n ((dat (A ++ f :: B)).del (.string f.n))) (hk : Step [m] [m] w w') : Dkm w' (d :: m :: (A ++ B).map Fil.b) d m (A ++ B) room fuse off := by
 have hm := h.m_ne h.blk
 rw [dat_del, del_mid h.ris] at ho
 have hr := h.ris
 have hnod := h.nod
 refine ⟨rfl, h.blk.step hk (by simpa using fun e => hm e.symm), owns_size ho, fun x hx => (h.fil x ?_).step hk ?_, ?_, ?_⟩
 ·rcases List.mem_append.1 hx with hx | hx <;> simp [hx]
 ·have := h.m_ne (h.fil x (by rcases List.mem_append.1 hx with hx | hx <;> simp [hx]))
  simpa using fun e => this e.symm
 ·unfold Ris at *
  obtain ⟨h1, h2, h3⟩ := List.pairwise_append.1 hr
  exact List.pairwise_append.2 ⟨h1, (List.pairwise_cons.1 h2).2, fun a ha b hb => h3 a ha b (by simp [hb])⟩
 ·rw [List.map_append, List.map_cons] at hnod
  obtain ⟨n1, n2, n3⟩ := List.nodup_append.1 hnod
  rw [List.map_append]
  exact List.nodup_append.2 ⟨n1, (List.nodup_cons.1 n2).2, fun a ha b hb => n3 a ha b (by simp [hb])⟩

theorem dread_any (x : List UInt8) (w : World) (S : List Nat) (d : Nat) (s : St) (h : Dk w S d s) (hB : StB s) (hx : x.length ≤ 1099511627776) : Calls Tryz.prog 28 #[.pointer (some ⟨d, 0, none⟩), Str x] w fun e w' => e = .returned (.tuple #[Str (readS s x).1, .int .i64 (readS s x).2]) ∧ Step [] [] w w' := by
 obtain ⟨m, L, h1, h2⟩ := h
 have hfi := find_any x w S d m L s.room s.fuse s.off h1 hx
 have HF := Lib.hid hfi
 have HB := Lib.hid (And.intro h1 h2)
 clear hfi h1 h2
 go_enter Tryz.func28, Tryz.ntmps28
 go_wp2_with fail
 refine HF.out.mono ?_
 rintro e w1 ⟨rfl, rfl⟩
 cases ho : s.off with
 | true =>
  rw [show findV true (fget L x) = .tuple #[.pointer none, .int .i64 7] from rfl]
  have HO := Lib.hid ho
  clear ho
  go_wp2_with fail
  refine bodyPost_ret (v := .tuple #[.string ⟨#[]⟩, .int .i64 7]) ?_ rfl ⟨by simp [readS, HO.out], Step.refl _ _⟩
  simp [results, Tryz.results28, go_sem]
 | false =>
  have HO := Lib.hid ho
  clear ho
  cases hg : fget L x with
  | none =>
   rw [show findV false none = .tuple #[.pointer none, .int .i64 8] from rfl]
   have HG := Lib.hid (show eget s.E x = none by rw [← HB.out.2, fget_en, hg]; rfl)
   clear hg
   go_wp2_with fail
   refine bodyPost_ret (v := .tuple #[.string ⟨#[]⟩, .int .i64 8]) ?_ rfl ⟨by simp [readS, HO.out, HG.out], Step.refl _ _⟩
   simp [results, Tryz.results28, go_sem]
  | some f =>
   rw [show findV false (some f) = .tuple #[.pointer (some ⟨f.b, 0, none⟩), .int .i64 0] from rfl]
   have HG := Lib.hid (show eget s.E x = some f.en by rw [← HB.out.2, fget_en, hg]; rfl)
   obtain ⟨hfn, A, B, hL, hA⟩ := fget_some hg
   have HL := Lib.hid (And.intro hfn hL)
   clear hg hfn hL hA
   go_wp2_with fail
   have hfm : f ∈ L := by rw [HL.out.2]; simp
   have hfu := en_used HB.out.2 hB hfm
   refine (all_any w f.b f.d f.l (HB.out.1.fil f hfm) (by omega)).mono ?_
   rintro e w2 ⟨rfl, hw2⟩
   have HW := Lib.hid hw2
   clear hw2
   go_wp2_with fail
   refine bodyPost_ret (v := .tuple #[Str (f.d ++ f.l), .int .i64 0]) ?_ rfl ⟨by simp [readS, HO.out, HG.out, Fil.en], HW.out⟩
   simp [results, Tryz.results28, go_sem]

theorem sync_any (x : List UInt8) (w : World) (S : List Nat) (d : Nat) (s : St) (h : Dk w S d s) (hB : StB s) (hx : x.length ≤ 1099511627776) : Calls Tryz.prog 37 #[.pointer (some ⟨d, 0, none⟩), Str x] w (DkP (syncS s x) S d w) := by
 obtain ⟨m, L, h1, h2⟩ := h
 have hfi := find_any x w S d m L s.room s.fuse s.off h1 hx
 have HF := Lib.hid hfi
 have HB := Lib.hid (And.intro h1 h2)
 clear hfi h1 h2
 go_enter Tryz.func37, Tryz.ntmps37
 go_wp2_with fail
 refine HF.out.mono ?_
 rintro e w1 ⟨rfl, rfl⟩
 cases ho : s.off with
 | true =>
  rw [show findV true (fget L x) = .tuple #[.pointer none, .int .i64 7] from rfl]
  have HO := Lib.hid ho
  clear ho
  go_wp2_with fail
  refine bodyPost_ret (results_tmp rfl _ _ _) rfl ?_
  simp only [DkP, syncS, onFile, HO.out, Bool.false_eq_true, if_false, if_true]
  exact ⟨rfl, S, ⟨m, L, HB.out.1, HB.out.2⟩, Step.refl _ _⟩
 | false =>
  have HO := Lib.hid ho
  clear ho
  cases hg : fget L x with
  | none =>
   rw [show findV false none = .tuple #[.pointer none, .int .i64 8] from rfl]
   have HG := Lib.hid (show eget s.E x = none by rw [← HB.out.2, fget_en, hg]; rfl)
   clear hg
   go_wp2_with fail
   refine bodyPost_ret (results_tmp rfl _ _ _) rfl ?_
   simp only [DkP, syncS, onFile, HO.out, HG.out, Bool.false_eq_true, if_false, if_true]
   exact ⟨rfl, S, ⟨m, L, HB.out.1, HB.out.2⟩, Step.refl _ _⟩
  | some f =>
   rw [show findV false (some f) = .tuple #[.pointer (some ⟨f.b, 0, none⟩), .int .i64 0] from rfl]
   have HG := Lib.hid (show eget s.E x = some f.en by rw [← HB.out.2, fget_en, hg]; rfl)
   obtain ⟨hfn, A, B, hL, hA⟩ := fget_some hg
   have HL := Lib.hid (And.intro hfn hL)
   clear hg hfn hL hA
   go_wp2_with fail
   have hfm : f ∈ L := by rw [HL.out.2]; simp
   have hfu := Lib.hid (en_used HB.out.2 hB hfm)
   refine (burns_any w d m s.room s.fuse s.off HB.out.1.blk hB.fuse.2).mono ?_
   rintro e w2 ⟨rfl, hb2, hs2⟩
   have h2 := HB.out.1.head hs2 hb2
   have hw2 : Step S S w w2 := hs2.wide (by intro k hk; simp only [List.mem_singleton] at hk; rw [hk, HB.out.1.hS]; simp) (by intro k hk; exact .inl hk)
   have H2 := Lib.hid (And.intro h2 hw2)
   clear h2 hw2 hb2 hs2
   cases hbo : burnO s.fuse s.off with
   | true =>
    have HQ := Lib.hid (show s.burn.off = true from hbo)
    rw [hbo] at H2
    clear hbo
    go_wp2_with fail
    refine bodyPost_ret (results_tmp rfl _ _ _) rfl ?_
    simp only [DkP, syncS, onFile, HO.out, HG.out, HQ.out, Bool.false_eq_true, if_false, if_true]
    exact ⟨rfl, S, ⟨m, L, by rw [HQ.out]; exact H2.out.1, HB.out.2⟩, H2.out.2⟩
   | false =>
    have HQ := Lib.hid (show s.burn.off = false from hbo)
    rw [hbo] at H2
    clear hbo
    have hfb := H2.out.1.fil f hfm
    have c0 := hfb.cell 0
    have c1 := hfb.cell 1
    simp only [List.getElem?_toArray, List.getElem?_cons_zero, List.getElem?_cons_succ] at c0 c1
    have f0 := hfb.frozen 0
    have f1 := hfb.frozen 1
    have fl := hfb.lt
    have HFB := Lib.hid hfb
    clear hfb
    go_wp2_with fail
    refine (all_any w2 f.b f.d f.l HFB.out (by have := hfu.out; omega)).mono ?_
    rintro e w3 ⟨rfl, hw3⟩
    have g0 := hw3.cell c0 (by simp)
    have g1 := hw3.cell c1 (by simp)
    have hb3 := HFB.out.step hw3 (by simp)
    have hf0 := hb3.frozen 0
    have hf1 := hb3.frozen 1
    have hl3 := hb3.lt
    have H3 := Lib.hid (And.intro hw3 hb3)
    clear hw3 hb3 c0 c1 f0 f1 fl
    go_wp2_with fail
    have hkk : Step [f.b] [f.b] w2 ((w3.setCell ⟨f.b, 0, none⟩ (Str (f.d ++ f.l))).setCell ⟨f.b, 1, none⟩ (.string ⟨#[]⟩)) := ((H3.out.1.keep [f.b]).setCell (p := ⟨f.b, 0, none⟩) (.inl (by simp)) _).setCell (p := ⟨f.b, 1, none⟩) (.inl (by simp)) _
    have hbb := (H3.out.2.set 0 (Str (f.d ++ f.l))).set 1 (.string ⟨#[]⟩)
    obtain ⟨hfn, hL⟩ := HL.out
    have hLA : Dkm w2 S d m (A ++ f :: B) s.room (burnF s.fuse) false := by rw [← hL]; exact H2.out.1
    have hfin := hLA.file (f := f) (g := ⟨f.n, f.b, f.d ++ f.l, []⟩) hkk rfl rfl (by simpa using hbb)
    refine bodyPost_ret (results_tmp rfl _ _ _) rfl ?_
    simp only [DkP, syncS, onFile, HO.out, HG.out, HQ.out, Bool.false_eq_true, if_false]
    refine ⟨rfl, S, ⟨m, A ++ ⟨f.n, f.b, f.d ++ f.l, []⟩ :: B, by simp only [HQ.out]; exact hfin, ?_⟩, H2.out.2.trans (Step.wide (hkk) (by intro k hk; simp only [List.mem_singleton] at hk; rw [hk]; exact HB.out.1.memS hfm) (by intro k hk; exact .inl hk))⟩
    rw [← HB.out.2, hL, ← hfn]
    simp only [List.map_append, List.map_cons]
    exact (emod_mid (f := f.en) (by have := ris_en.2 H2.out.1.ris; rw [hL] at this; simpa using this) fun f => ⟨f.n, f.d ++ f.l, []⟩).symm

theorem remove_any (x : List UInt8) (w : World) (S : List Nat) (d : Nat) (s : St) (h : Dk w S d s) (hB : StB s) (hx : x.length ≤ 1099511627776) : Calls Tryz.prog 31 #[.pointer (some ⟨d, 0, none⟩), Str x] w (DkP (removeS s x) S d w) := by
 obtain ⟨m, L, h1, h2⟩ := h
 have hfi := find_any x w S d m L s.room s.fuse s.off h1 hx
 have HF := Lib.hid hfi
 have HB := Lib.hid (And.intro h1 h2)
 clear hfi h1 h2
 go_enter Tryz.func31, Tryz.ntmps31
 go_wp2_with fail
 refine HF.out.mono ?_
 rintro e w1 ⟨rfl, rfl⟩
 cases ho : s.off with
 | true =>
  rw [show findV true (fget L x) = .tuple #[.pointer none, .int .i64 7] from rfl]
  have HO := Lib.hid ho
  clear ho
  go_wp2_with fail
  refine bodyPost_ret (results_tmp rfl _ _ _) rfl ?_
  simp only [DkP, removeS, onFile, HO.out, Bool.false_eq_true, if_false, if_true]
  exact ⟨rfl, S, ⟨m, L, HB.out.1, HB.out.2⟩, Step.refl _ _⟩
 | false =>
  have HO := Lib.hid ho
  clear ho
  cases hg : fget L x with
  | none =>
   rw [show findV false none = .tuple #[.pointer none, .int .i64 8] from rfl]
   have HG := Lib.hid (show eget s.E x = none by rw [← HB.out.2, fget_en, hg]; rfl)
   clear hg
   go_wp2_with fail
   refine bodyPost_ret (results_tmp rfl _ _ _) rfl ?_
   simp only [DkP, removeS, onFile, HO.out, HG.out, Bool.false_eq_true, if_false, if_true]
   exact ⟨rfl, S, ⟨m, L, HB.out.1, HB.out.2⟩, Step.refl _ _⟩
  | some f =>
   rw [show findV false (some f) = .tuple #[.pointer (some ⟨f.b, 0, none⟩), .int .i64 0] from rfl]
   have HG := Lib.hid (show eget s.E x = some f.en by rw [← HB.out.2, fget_en, hg]; rfl)
   obtain ⟨hfn, A, B, hL, hA⟩ := fget_some hg
   have HL := Lib.hid (And.intro hfn hL)
   clear hg hfn hL hA
   go_wp2_with fail
   have hfm : f ∈ L := by rw [HL.out.2]; simp
   have hfu := Lib.hid (en_used HB.out.2 hB hfm)
   refine (burns_any w d m s.room s.fuse s.off HB.out.1.blk hB.fuse.2).mono ?_
   rintro e w2 ⟨rfl, hb2, hs2⟩
   have h2 := HB.out.1.head hs2 hb2
   have hw2 : Step S S w w2 := hs2.wide (by intro k hk; simp only [List.mem_singleton] at hk; rw [hk, HB.out.1.hS]; simp) (by intro k hk; exact .inl hk)
   have H2 := Lib.hid (And.intro h2 hw2)
   clear h2 hw2 hb2 hs2
   cases hbo : burnO s.fuse s.off with
   | true =>
    have HQ := Lib.hid (show s.burn.off = true from hbo)
    rw [hbo] at H2
    clear hbo
    go_wp2_with fail
    refine bodyPost_ret (results_tmp rfl _ _ _) rfl ?_
    simp only [DkP, removeS, onFile, HO.out, HG.out, HQ.out, Bool.false_eq_true, if_false, if_true]
    exact ⟨rfl, S, ⟨m, L, by rw [HQ.out]; exact H2.out.1, HB.out.2⟩, H2.out.2⟩
   | false =>
    have HQ := Lib.hid (show s.burn.off = false from hbo)
    rw [hbo] at H2
    clear hbo
    have c0 := H2.out.1.blk.cell 0
    simp only [List.getElem?_toArray, List.getElem?_cons_zero, List.getElem?_cons_succ] at c0
    obtain ⟨hfn, hL⟩ := HL.out
    have hLA : Dkm w2 S d m (A ++ f :: B) s.room (burnF s.fuse) false := by rw [← hL]; exact H2.out.1
    have HLA := Lib.hid hLA
    have HN := Lib.hid (And.intro hfn hL)
    clear hLA hfn hL
    go_wp2_with (at_delete; refine wpList_delete_own _ rfl _ _ 57 9 rfl 61 (string_keyed Tryz.underlying9) Tryz.underlying57 ptrElem m (A ++ f :: B).length (dat (A ++ f :: B)) rfl HLA.out.own _ _ rfl (WideMaps.keyOf_string_mk Tryz.underlying9 (s := ⟨x.toArray⟩) (by unfold maxLen; simp [ByteArray.size]; omega)) ?_; intro w3 hown3 hturn3)
    refine bodyPost_ret (results_tmp rfl _ _ _) rfl ?_
    have hk3 := turned_step hturn3
    have hown4 : w3.ownsMap Tryz.prog 9 ptrElem m (A ++ f :: B).length ((dat (A ++ f :: B)).del (.string f.n)) := by rw [HN.out.1]; exact hown3
    have hfin := HLA.out.drop hown4 hk3
    simp only [DkP, removeS, onFile, HO.out, HG.out, HQ.out, Bool.false_eq_true, if_false]
    refine ⟨rfl, _, ⟨m, A ++ B, by simp only [HQ.out]; exact hfin, ?_⟩, H2.out.2.trans (Step.wide hk3 (by intro k hk; simp only [List.mem_singleton] at hk; rw [hk, HB.out.1.hS]; simp) ?_)⟩
    ·rw [← HB.out.2, HN.out.2, ← HN.out.1]
     simp only [List.map_append, List.map_cons]
     exact (edel_mid (f := f.en) (by have := ris_en.2 H2.out.1.ris; rw [HN.out.2] at this; simpa using this)).symm
    ·intro k hk
     rw [HLA.out.hS]
     simp only [List.map_append, List.map_cons, List.mem_cons, List.mem_append] at hk ⊢
     rcases hk with h | h | h | h <;> simp [h]
theorem cut_neg (x : List UInt8) (k : Int) (hk : k < 0) (w : World) (S : List Nat) (d : Nat) (s : St) (h : Dk w S d s) (hB : StB s) (hx : x.length ≤ 1099511627776) : Calls Tryz.prog 33 #[.pointer (some ⟨d, 0, none⟩), Str x, .int .i64 k] w (DkP (cutS s x k) S d w) := by
 have hkd : decide (k < 0) = true := decide_eq_true hk
 have HKN := Lib.hid hk
 clear hk
 obtain ⟨m, L, h1, h2⟩ := h
 have hfi := find_any x w S d m L s.room s.fuse s.off h1 hx
 have HF := Lib.hid hfi
 have HB := Lib.hid (And.intro h1 h2)
 clear hfi h1 h2
 go_enter Tryz.func33, Tryz.ntmps33
 go_wp2_with fail
 refine HF.out.mono ?_
 rintro e w1 ⟨rfl, rfl⟩
 cases ho : s.off with
 | true =>
  rw [show findV true (fget L x) = .tuple #[.pointer none, .int .i64 7] from rfl]
  have HO := Lib.hid ho
  clear ho
  go_wp2_with fail
  refine bodyPost_ret (results_tmp rfl _ _ _) rfl ?_
  simp only [DkP, cutS, HO.out, Bool.false_eq_true, if_false, if_true]
  exact ⟨rfl, S, ⟨m, L, HB.out.1, HB.out.2⟩, Step.refl _ _⟩
 | false =>
  have HO := Lib.hid ho
  clear ho
  cases hg : fget L x with
  | none =>
   rw [show findV false none = .tuple #[.pointer none, .int .i64 8] from rfl]
   have HG := Lib.hid (show eget s.E x = none by rw [← HB.out.2, fget_en, hg]; rfl)
   clear hg
   go_wp2_with fail
   refine bodyPost_ret (results_tmp rfl _ _ _) rfl ?_
   simp only [DkP, cutS, HO.out, HG.out, Bool.false_eq_true, if_false, if_true]
   exact ⟨rfl, S, ⟨m, L, HB.out.1, HB.out.2⟩, Step.refl _ _⟩
  | some f =>
   rw [show findV false (some f) = .tuple #[.pointer (some ⟨f.b, 0, none⟩), .int .i64 0] from rfl]
   have HG := Lib.hid (show eget s.E x = some f.en by rw [← HB.out.2, fget_en, hg]; rfl)
   obtain ⟨hfn, A, B, hL, hA⟩ := fget_some hg
   have HL := Lib.hid (And.intro hfn hL)
   clear hg hfn hL hA
   go_wp2_with fail
   refine bodyPost_ret (results_tmp rfl _ _ _) rfl ?_
   simp only [DkP, cutS, HO.out, HG.out, HKN.out, true_or, Bool.false_eq_true, if_false, if_true]
   exact ⟨rfl, S, ⟨m, L, HB.out.1, HB.out.2⟩, Step.refl _ _⟩
theorem cut_nat (x : List UInt8) (j : Nat) (w : World) (S : List Nat) (d : Nat) (s : St) (h : Dk w S d s) (hB : StB s) (hx : x.length ≤ 1099511627776) : Calls Tryz.prog 33 #[.pointer (some ⟨d, 0, none⟩), Str x, .int .i64 (j : Int)] w (DkP (cutS s x (j : Int)) S d w) := by
 have hkd : decide ((j : Int) < 0) = false := decide_eq_false (by omega)
 obtain ⟨m, L, h1, h2⟩ := h
 have hfi := find_any x w S d m L s.room s.fuse s.off h1 hx
 have HF := Lib.hid hfi
 have HB := Lib.hid (And.intro h1 h2)
 clear hfi h1 h2
 go_enter Tryz.func33, Tryz.ntmps33
 go_wp2_with fail
 refine HF.out.mono ?_
 rintro e w1 ⟨rfl, rfl⟩
 cases ho : s.off with
 | true =>
  rw [show findV true (fget L x) = .tuple #[.pointer none, .int .i64 7] from rfl]
  have HO := Lib.hid ho
  clear ho
  go_wp2_with fail
  refine bodyPost_ret (results_tmp rfl _ _ _) rfl ?_
  simp only [DkP, cutS, HO.out, Bool.false_eq_true, if_false, if_true]
  exact ⟨rfl, S, ⟨m, L, HB.out.1, HB.out.2⟩, Step.refl _ _⟩
 | false =>
  have HO := Lib.hid ho
  clear ho
  cases hg : fget L x with
  | none =>
   rw [show findV false none = .tuple #[.pointer none, .int .i64 8] from rfl]
   have HG := Lib.hid (show eget s.E x = none by rw [← HB.out.2, fget_en, hg]; rfl)
   clear hg
   go_wp2_with fail
   refine bodyPost_ret (results_tmp rfl _ _ _) rfl ?_
   simp only [DkP, cutS, HO.out, HG.out, Bool.false_eq_true, if_false, if_true]
   exact ⟨rfl, S, ⟨m, L, HB.out.1, HB.out.2⟩, Step.refl _ _⟩
  | some f =>
   rw [show findV false (some f) = .tuple #[.pointer (some ⟨f.b, 0, none⟩), .int .i64 0] from rfl]
   have HG := Lib.hid (show eget s.E x = some f.en by rw [← HB.out.2, fget_en, hg]; rfl)
   obtain ⟨hfn, A, B, hL, hA⟩ := fget_some hg
   have HL := Lib.hid (And.intro hfn hL)
   clear hg hfn hL hA
   go_wp2_with fail
   have hfm : f ∈ L := by rw [HL.out.2]; simp
   have HU := Lib.hid (en_used HB.out.2 hB hfm)
   refine (all_any w f.b f.d f.l (HB.out.1.fil f hfm) (by have := HU.out; omega)).mono ?_
   rintro e w4 ⟨rfl, hw4⟩
   have hB4 : Dkm w4 S d m L s.room s.fuse s.off := HB.out.1.step hw4 (by simp)
   have H4 := Lib.hid (And.intro hB4 hw4)
   clear hB4 hw4
   have hll : (f.d ++ f.l).length = f.d.length + f.l.length := List.length_append
   by_cases hbig : (f.d.length + f.l.length : Nat) < j
   ·have hbd : decide (((f.d.length + f.l.length : Nat) : Int) < (j : Int)) = true := decide_eq_true (by omega)
    have hbd2 : decide ((f.d.length : Int) + (f.l.length : Int) < (j : Int)) = true := decide_eq_true (by omega)
    have HC : Hid (((j : Int) < 0 ∨ ((f.en.d.length + f.en.l.length : Nat) : Int) < (j : Int))) := Lib.hid (.inr (by simp only [Fil.en]; omega))
    clear hbig
    go_wp2_with fail
    refine bodyPost_ret (results_tmp rfl _ _ _) rfl ?_
    simp only [DkP, cutS, HO.out, HG.out, Bool.false_eq_true, if_false]
    rw [if_pos HC.out]
    exact ⟨rfl, S, ⟨m, L, H4.out.1, HB.out.2⟩, (H4.out.2.keep S)⟩
   have hbd : decide (((f.d.length + f.l.length : Nat) : Int) < (j : Int)) = false := decide_eq_false (by omega)
   have hbd2 : decide ((f.d.length : Int) + (f.l.length : Int) < (j : Int)) = false := decide_eq_false (by omega)
   have HC : Hid (¬((j : Int) < 0 ∨ ((f.en.d.length + f.en.l.length : Nat) : Int) < (j : Int))) := Lib.hid (by simp only [Fil.en]; omega)
   have HSM := Lib.hid hbig
   clear hbig
   go_wp2_with fail
   refine (burns_any w4 d m s.room s.fuse s.off H4.out.1.blk hB.fuse.2).mono ?_
   rintro e w2 ⟨rfl, hb2, hs2⟩
   have h2 := H4.out.1.head hs2 hb2
   have hw2 : Step S S w w2 := (H4.out.2.keep S).trans <| hs2.wide (by intro k hk; simp only [List.mem_singleton] at hk; rw [hk, HB.out.1.hS]; simp) (by intro k hk; exact .inl hk)
   have H2 := Lib.hid (And.intro h2 hw2)
   clear h2 hw2 hb2 hs2
   cases hbo : burnO s.fuse s.off with
   | true =>
    have HQ := Lib.hid (show s.burn.off = true from hbo)
    rw [hbo] at H2
    clear hbo
    go_wp2_with fail
    refine bodyPost_ret (results_tmp rfl _ _ _) rfl ?_
    simp only [DkP, cutS, HO.out, HG.out, Bool.false_eq_true, if_false]
    rw [if_neg HC.out, if_pos HQ.out]
    exact ⟨rfl, S, ⟨m, L, by rw [HQ.out]; exact H2.out.1, HB.out.2⟩, H2.out.2⟩
   | false =>
    have HQ := Lib.hid (show s.burn.off = false from hbo)
    rw [hbo] at H2
    clear hbo
    have hfb := H2.out.1.fil f hfm
    have c0 := hfb.cell 0
    have c1 := hfb.cell 1
    simp only [List.getElem?_toArray, List.getElem?_cons_zero, List.getElem?_cons_succ] at c0 c1
    have f0 := hfb.frozen 0
    have f1 := hfb.frozen 1
    have fl := hfb.lt
    have HFB := Lib.hid hfb
    clear hfb
    by_cases hle : j ≤ f.d.length
    ·have hld : decide ((j : Int) ≤ (f.d.length : Int)) = true := decide_eq_true (by omega)
     have hls : (j : Int) ≤ (f.d.length : Int) := by omega
     have HLE := Lib.hid hle
     clear hle
     go_wp2_with fail
     have hkk : Step [f.b] [f.b] w2 ((w2.setCell ⟨f.b, 0, none⟩ (Str (f.d.take j))).setCell ⟨f.b, 1, none⟩ (.string ⟨#[]⟩)) := ((Step.refl [f.b] w2).setCell (p := ⟨f.b, 0, none⟩) (.inl (by simp)) _).setCell (p := ⟨f.b, 1, none⟩) (.inl (by simp)) _
     have hbb := (HFB.out.set 0 (Str (f.d.take j))).set 1 (.string ⟨#[]⟩)
     obtain ⟨hfn, hL⟩ := HL.out
     have hLA : Dkm w2 S d m (A ++ f :: B) s.room (burnF s.fuse) false := by rw [← hL]; exact H2.out.1
     have hfin := hLA.file (f := f) (g := ⟨f.n, f.b, f.d.take j, []⟩) hkk rfl rfl (by simpa using hbb)
     refine bodyPost_ret (results_tmp rfl _ _ _) rfl ?_
     simp only [DkP, cutS, HO.out, HG.out, Bool.false_eq_true, if_false]
     rw [if_neg HC.out, if_neg (by rw [HQ.out]; simp)]
     refine ⟨rfl, S, ⟨m, A ++ ⟨f.n, f.b, f.d.take j, []⟩ :: B, by simp only [HQ.out]; exact hfin, ?_⟩, H2.out.2.trans (Step.wide (hkk) (by intro k hk; simp only [List.mem_singleton] at hk; rw [hk]; exact HB.out.1.memS hfm) (by intro k hk; exact .inl hk))⟩
     rw [← HB.out.2, hL, ← hfn]
     simp only [List.map_append, List.map_cons]
     rw [show (⟨f.n, f.b, f.d.take j, []⟩ : Fil).en = cutF ((j : Int)).toNat f.en from (show cutF ((j : Int)).toNat f.en = _ by simp [cutF, Fil.en, HLE.out]).symm]
     exact (emod_mid (f := f.en) (by have := ris_en.2 H2.out.1.ris; rw [hL] at this; simpa using this) (cutF ((j : Int)).toNat)).symm
    have hld : decide ((j : Int) ≤ (f.d.length : Int)) = false := decide_eq_false (by omega)
    have hls : (f.d.length : Int) < (j : Int) := by omega
    obtain ⟨i, hi⟩ : ∃ i, j = f.d.length + i := ⟨j - f.d.length, by omega⟩
    have hwr : IntKind.i64.wrap ((j : Int) - (f.d.length : Int)) = (i : Int) := by rw [IntWalk.i64_in _ (by have := HSM.out; have := HU.out; omega)]; omega
    have hil : i ≤ f.l.length := by have := HSM.out; omega
    have hil2 : (i : Int) ≤ (f.l.length : Int) := by omega
    have HLE := Lib.hid (And.intro hle hi)
    clear hle hi
    have HD := Lib.hid HFB.out.drew
    have d0 := HFB.out.drew.cell 0
    have d1 := HFB.out.drew.cell 1
    simp only [List.getElem?_toArray, List.getElem?_cons_zero, List.getElem?_cons_succ] at d0 d1
    have e0 := HFB.out.drew.frozen 0
    have e1 := HFB.out.drew.frozen 1
    go_wp2_with fail
    refine still_tail 13 (by kernel_rfl) (by kernel_rfl) ?_
    simp only [List.take_succ_cons, List.take_zero, List.drop_succ_cons, List.drop_zero]
    repeat still_step
    refine wpStill_nil ?_
    go_wp2_with fail
    have hkk : Step [f.b] [f.b] w2 (w2.setCell ⟨f.b, 1, none⟩ (Str (f.l.take i))).drew := ((Step.refl [f.b] w2).setCell (p := ⟨f.b, 1, none⟩) (.inl (by simp)) _).drew
    have hbb := (HFB.out.set 1 (Str (f.l.take i))).drew
    obtain ⟨hfn, hL⟩ := HL.out
    have hLA : Dkm w2 S d m (A ++ f :: B) s.room (burnF s.fuse) false := by rw [← hL]; exact H2.out.1
    have hfin := hLA.file (f := f) (g := ⟨f.n, f.b, f.d, f.l.take i⟩) hkk rfl rfl (by simpa using hbb)
    refine bodyPost_ret (results_tmp rfl _ _ _) rfl ?_
    simp only [DkP, cutS, HO.out, HG.out, Bool.false_eq_true, if_false]
    rw [if_neg HC.out, if_neg (by rw [HQ.out]; simp)]
    refine ⟨rfl, S, ⟨m, A ++ ⟨f.n, f.b, f.d, f.l.take i⟩ :: B, by simp only [HQ.out]; exact hfin, ?_⟩, H2.out.2.trans (Step.wide (hkk) (by intro k hk; simp only [List.mem_singleton] at hk; rw [hk]; exact HB.out.1.memS hfm) (by intro k hk; exact .inl hk))⟩
    rw [← HB.out.2, hL, ← hfn]
    simp only [List.map_append, List.map_cons]
    rw [show (⟨f.n, f.b, f.d, f.l.take i⟩ : Fil).en = cutF ((j : Int)).toNat f.en from (cut_gt f j i HLE.out.1 HLE.out.2).symm]
    exact (emod_mid (f := f.en) (by have := ris_en.2 H2.out.1.ris; rw [hL] at this; simpa using this) (cutF ((j : Int)).toNat)).symm

end Go.Proofs.YtnkbphecabnnaaaGreatDoor
namespace Go.Proofs.YtnkbphecabnnaaaGreatDoor
open Go.RowKit Go.Maps
set_option linter.unusedSimpArgs false
set_option linter.unusedVariables false
set_option maxRecDepth 100000

/-- What has been summed so far. -/
def UsR (w : World) (m : Nat) (L : List Fil) (ss : List (List UInt8)) (left : Lit → Bool) (cnt : Nat) (wr : World) : Prop :=
 wr.ranges Tryz.prog 9 ptrElem m w.heap.size L.length (dat L) left cnt ∧ Collected (dat L) left ss ∧ Step [] [] w wr
def ptrV (p : Option Nat) : Value := .pointer (p.map fun b => ⟨b, 0, none⟩)
@[go_sem] theorem ptrV_some (b : Nat) : ptrV (some b) = .pointer (some ⟨b, 0, none⟩) := rfl

theorem ranges_drewN {w : World} {P : Program} {k : TypeId} {R : Value → Option (DataW Unit × List MemPlace)} {b r n : Nat} {D : DataW Unit} {left : Lit → Bool} {cnt : Nat} (h : w.ranges P k R b r n D left cnt) (j : Nat) : (w.drewN j).ranges P k R b r n D left cnt :=
 h.kept (row := none) ⟨rfl, rfl, rfl, Nat.le_refl _, fun _ _ _ => rfl⟩ (by simp) (by simp)
theorem used_any (w : World) (S : List Nat) (d : Nat) (s : St) (h : Dk w S d s) (hB : StB s) : Calls Tryz.prog 12 #[.pointer (some ⟨d, 0, none⟩)] w fun e w' => e = .returned (.int .i64 (usedS s : Nat)) ∧ Step [] [] w w' := by
 obtain ⟨m, L, h1, h2⟩ := h
 have c0 := h1.blk.cell 0
 simp only [List.getElem?_toArray, List.getElem?_cons_zero, List.getElem?_cons_succ] at c0
 have HB := Lib.hid (And.intro h1 h2)
 have HU := Lib.hid hB.used
 clear h1 h2 hB
 go_enter Tryz.func12, Tryz.ntmps12
 go_wp2_with fail
 refine (down_any w d m s.room s.fuse s.off HB.out.1.blk).mono ?_
 rintro e w1 ⟨rfl, rfl⟩
 cases ho : s.off with
 | true =>
  have HO := Lib.hid ho
  clear ho
  go_wp2_with fail
  exact bodyPost_ret (results_tmp rfl _ _ _) rfl ⟨by simp [usedS, HO.out], Step.refl _ _⟩
 | false =>
  have HO := Lib.hid ho
  clear ho
  go_wp2_with (at_range; refine wpList_range_own _ rfl _ 57 rfl 9 61 (string_keyed Tryz.underlying9) Tryz.underlying57 ptrElem m L.length (dat L) rfl HB.out.1.own ?_; intro w0 hrg0 hg0 hs0)
  go_frame
  go_loopw [3] (fun v wr => ∃ ss left cnt, v = .int .i64 (sumU L ss : Nat) ∧ Hid (UsR w m L ss left cnt wr)) (fun _ wr => wr.rangeLeft m w.heap.size)
  case atStart => exact ⟨[], _, _, rfl, Lib.hid ⟨hrg0, Collected.start _, (Step.refl [] w).of_grown hg0 (by simp)⟩⟩
  case round =>
   rename World => W
   obtain ⟨ss, left, cnt, rfl, HW⟩ := hrel
   have hbd := Lib.hid (sumU_le HW.out.2.1 HB.out.1.ris)
   go_wp2_with (at_next; refine wpList_next_ranges _ rfl _ rfl 9 (string_keyed Tryz.underlying9) ptrElem encStr ptrV (fun key kl hk => by obtain ⟨x, hx, _⟩ := Maps.keyOf_str Tryz.underlying9 hk; exact ⟨x, hx⟩) (fun v y hv => ptrElem_some hv) m w.heap.size L.length _ _ _ rfl HW.out.1 ?_ ?_)
   ·intro _ hl0
    have hend := Lib.hid (sumU_end HW.out.2.1 HB.out.1.ris hl0)
    go_wp2_with fail
    exact bodyPost_ret (results_tmp rfl _ _ _) rfl ⟨by rw [hend.out, HB.out.2]; simp [usedS, HO.out], HW.out.2.2⟩
   ·intro x c kl yd yp w2 cnt2 hkey hlk hv hat hrg2 hlt hg2 hs2 hen
    obtain ⟨x', ex, rfl, _⟩ := Maps.keyOf_str Tryz.underlying9 hkey
    obtain rfl : x = x' := encStr_inj ex
    obtain ⟨f, hf, rfl, rfl⟩ := dat_entry hv hat
    have hC2 := HW.out.2.1.step hlk hat
    have hst2 := HW.out.2.2.of_grown hg2 (by intro j hj; cases hj; exact .inr (Nat.le_refl _))
    have hle := sumU_le hC2 HB.out.1.ris
    have hsm : sumU L (ss ++ [f.n]) = sumU L ss + (f.d.length + f.l.length) := by rw [sumU_app]; simp [sumU, sizeU_mem HB.out.1.ris hf]
    rw [hsm, HB.out.2] at hle
    have hbf := (HB.out.1.fil f hf).step hst2 (by simp)
    have g0 := hbf.cell 0
    have g1 := hbf.cell 1
    simp only [List.getElem?_toArray, List.getElem?_cons_zero, List.getElem?_cons_succ] at g0 g1
    have HZ := Lib.hid (And.intro hrg2 (And.intro hC2 hst2))
    have HM := Lib.hid hlt
    have HL := Lib.hid (show cnt = W.rangeLeft m w.heap.size from HW.out.1.left_eq.symm)
    have HS := Lib.hid hsm
    clear hkey hlk hv hat hrg2 hlt hg2 hs2 hC2 hst2 hbf hsm hbd ex
    have hle' := Nat.le_trans hle HU.out
    clear hle HU
    obtain ⟨n, hn⟩ : ∃ n, n = sumU L ss := ⟨_, rfl⟩
    rw [← hn] at hle' HS ⊢
    have HN := Lib.hid hn
    clear hn
    rw [ptrV_some] at hen
    go_wp2_with fail
    go_quiet (fail)
    go_wp2_with fail
    refine ⟨⟨ss ++ [f.n], _, cnt2, ?_, Lib.hid ⟨ranges_drewN HZ.out.1 _, HZ.out.2.1, HZ.out.2.2.drewN _⟩⟩, ?_⟩
    ·rw [HS.out]
     congr 1
    ·rw [(ranges_drewN HZ.out.1 _).left_eq, ← HL.out]
     exact HM.out

/-- The names, in a slice of new memory. -/
def NmP (w : World) (l : List (List UInt8)) (e : Ending) (w' : World) : Prop := ∃ a cap, e = .returned (.slice a l.length cap) ∧ Row w' 1 a l.length cap (l.map encStr) ∧ Step [] (blks a) w w'
theorem row_of_owns {w : World} {base n : Nat} {t : TypeId} {v : Value} {xs : List Value} (h : w.ownsRow base t 1 v n xs) : ∃ a cap, v = .slice a n cap ∧ Row w 1 a n cap xs ∧ ∀ g, g ∈ blks a → base ≤ g := by
 obtain ⟨hl, ⟨rfl, rfl⟩ | ⟨g, cap, cur, rfl, hb, hblk, h1, h2, h3, h4⟩⟩ := h
 ·have : xs = [] := List.eq_nil_of_length_eq_zero (by simpa using hl)
  subst this
  exact ⟨none, 0, rfl, Row.none w 1, by simp [blks]⟩
 ·refine ⟨_, cap, rfl, ⟨hl, h1, h2, (fun e => by cases e), fun ad e => ?_⟩, fun g' hg => by simp [blks] at hg; omega⟩
  injection e with e
  subst e
  exact ⟨rfl, cur, Blk.cells (t := t) hblk, by simp [h3], by simpa using h4⟩
theorem names_any (w : World) (S : List Nat) (d : Nat) (s : St) (h : Dk w S d s) (hB : StB s) : Calls Tryz.prog 38 #[.pointer (some ⟨d, 0, none⟩)] w (NmP w (namesS s)) := by
 obtain ⟨m, L, h1, h2⟩ := h
 have hlen : L.length ≤ 1099511627776 := by have := hB.len; rw [← h2] at this; simpa using this
 have c0 := h1.blk.cell 0
 simp only [List.getElem?_toArray, List.getElem?_cons_zero, List.getElem?_cons_succ] at c0
 have HB := Lib.hid (And.intro h1 h2)
 have HN := Lib.hid hlen
 clear h1 h2 hB hlen
 go_enter Tryz.func38, Tryz.ntmps38
 go_wp2_with fail
 refine (down_any w d m s.room s.fuse s.off HB.out.1.blk).mono ?_
 rintro e w1 ⟨rfl, rfl⟩
 cases ho : s.off with
 | true =>
  have HO := Lib.hid ho
  clear ho
  go_wp2_with fail
  refine bodyPost_ret (results_tmp rfl _ _ _) rfl ?_
  rw [show namesS s = [] by simp [namesS, HO.out]]
  exact ⟨none, 0, rfl, Row.none w 1, Step.refl _ _⟩
 | false =>
  have HO := Lib.hid ho
  clear ho
  go_wp2_with fail
  refine (callsIn_wide.1 (Tryz.dk_maps_Keys (some m) w)).mono ?_
  rintro e w1 ⟨rfl, rfl⟩
  go_wp2_with fail
  refine (callsIn_wide.1 (Tryz.dk_sorted_keys m L.length (dat L) ptrElem w HB.out.1.own (by rw [dat_size]; have := HN.out; unfold maxLen; omega) (by rw [dat_size]; have := HN.out; omega))).mono ?_
  rintro e w2 ⟨v, ss, rfl, hperm, hrow, hnil, hbel⟩
  have HZ := Lib.hid (And.intro hperm (And.intro hrow hbel))
  clear hperm hrow hnil hbel
  go_wp2_with fail
  refine bodyPost_ret (results_tmp rfl _ _ _) rfl ?_
  obtain ⟨hperm, hrow, hbel⟩ := HZ.out
  have hsort : ss.mergeSort leB = L.map Fil.n := by rw [mergeSort_of_perm hperm, dat_keys, ris_sorted HB.out.1.ris]
  have hnm : namesS s = L.map Fil.n := by
   simp only [namesS, HO.out, Bool.false_eq_true, if_false]
   rw [← HB.out.2, List.map_map]
   rfl
  have hll : ss.length = L.length := by rw [hperm.length_eq, dat_keys]; simp
  rw [show (ss.mergeSort fun x y => decide (x ≤ y)) = L.map Fil.n from hsort, hll] at hrow
  obtain ⟨a, cap, rfl, hr, hg⟩ := row_of_owns hrow
  rw [hnm]
  refine ⟨a, cap, by simp, by simpa using hr, ?_⟩
  have hst : Step [] [] w w2 := ((Step.refl [] w).alloc _).trans (Step.of_below hbel)
  exact hst.wide (by simp) (fun k hk => .inr (.inr (by have := hg k hk; simp at this; omega)))
end Go.Proofs.YtnkbphecabnnaaaGreatDoor
namespace Go.Proofs.YtnkbphecabnnaaaGreatDoor
open Go.RowKit Go.Maps
set_option linter.unusedSimpArgs false
set_option linter.unusedVariables false

theorem dcut_any (x : List UInt8) (k : Int) (w : World) (S : List Nat) (d : Nat) (s : St) (h : Dk w S d s) (hB : StB s) (hx : x.length ≤ 1099511627776) : Calls Tryz.prog 33 #[.pointer (some ⟨d, 0, none⟩), Str x, .int .i64 k] w (DkP (cutS s x k) S d w) := by
  by_cases hk : k < 0
  · exact cut_neg x k hk w S d s h hB hx
  · obtain ⟨j, rfl⟩ : ∃ j : Nat, k = j := ⟨k.toNat, by omega⟩
    exact cut_nat x j w S d s h hB hx
end Go.Proofs.YtnkbphecabnnaaaGreatDoor
