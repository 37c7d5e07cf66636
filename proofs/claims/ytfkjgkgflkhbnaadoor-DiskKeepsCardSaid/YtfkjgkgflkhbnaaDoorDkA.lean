/-
  A disk in memory: its struct, its map, its files; New, Down, burns, find, all, Fuse, Room; and each on no disk. No condition but lengths.
-/
import Derived.Test.YtfkjgkgflkhbnaaDoorDkPlain
import Derived.Test.YtfkjgkgflkhbnaaDoorNameOwnRight
import Derived.Test.YtfkjgkgflkhbnaaDoorMem3
import Derived.Test.YtfkjgkgflkhbnaaDoorMemRow
import Derived.Deep.DeepCutAuto
import Derived.Deep.CutBlock
namespace Go.Proofs.YtfkjgkgflkhbnaaDoor
open Go.RowKit Go.Maps
set_option linter.unusedSimpArgs false
set_option linter.unusedVariables false
set_option maxRecDepth 100000

abbrev flc (d l : List UInt8) : Array Value := #[Str d, Str l]
abbrev dkc (m : Nat) (room fuse : Int) (off : Bool) : Array Value := #[.map (some m), .int .i64 room, .int .i64 fuse, .bool off]
/-- The disk at block d, its map m, its files L; S: the blocks that it holds. -/
structure Dkm (w : World) (S : List Nat) (d m : Nat) (L : List Fil) (room fuse : Int) (off : Bool) : Prop where
  hS : S = d :: m :: L.map Fil.b
  blk : Blk w d 58 (dkc m room fuse off)
  own : w.ownsMap Tryd.prog 9 ptrElem m L.length (dat L)
  fil : ∀ f ∈ L, Blk w f.b 63 (flc f.d f.l)
  ris : Ris L
  nod : (L.map Fil.b).Nodup
/-- .. its files without their blocks. -/
def Dk (w : World) (S : List Nat) (d : Nat) (s : St) : Prop := ∃ m L, Dkm w S d m L s.room s.fuse s.off ∧ L.map Fil.en = s.E

section
variable {w w' : World} {S S' S'' : List Nat} {d m : Nat} {L : List Fil} {room fuse : Int} {off : Bool}
theorem Dkm.m_ne (h : Dkm w S d m L room fuse off) {g : Nat} {t : TypeId} {cs : Array Value} (hb : Blk w g t cs) : m ≠ g := by
  obtain ⟨es, clock, hm, _⟩ := h.own
  rintro rfl
  unfold Blk at hb
  rw [hb] at hm
  cases hm
theorem Dkm.f_ne (h : Dkm w S d m L room fuse off) {f : Fil} (hf : f ∈ L) : f.b ≠ d := (h.fil f hf).ne h.blk (by decide)
theorem Dkm.lt (h : Dkm w S d m L room fuse off) : ∀ k ∈ S, k < w.heap.size := by
  intro k hk
  rw [h.hS] at hk
  simp only [List.mem_cons, List.mem_map] at hk
  rcases hk with rfl | rfl | ⟨f, hf, rfl⟩
  · exact h.blk.lt
  · exact h.own.lt
  · exact (h.fil f hf).lt
theorem owns_far {R : Value → Option (DataW Unit × List MemPlace)} {P : Program} {k : TypeId} {n : Nat} {D : DataW Unit} (h : w.ownsMap P k R m n D) (k' : Step S' S'' w w') (hn : m ∉ S') : w'.ownsMap P k R m n D := by
  have hl := h.lt
  obtain ⟨es, clock, hb, r⟩ := h
  exact ⟨es, clock, (k'.block m hl hn).trans hb, r⟩
/-- What turns elsewhere leaves the disk. -/
theorem Dkm.step (h : Dkm w S d m L room fuse off) (k : Step S' S'' w w') (hn : ∀ x ∈ S, x ∉ S') : Dkm w' S d m L room fuse off := by
  have e := h.hS
  refine ⟨e, h.blk.step k (hn d (by simp [e])), owns_far h.own k (hn m (by simp [e])), fun f hf => (h.fil f hf).step k (hn f.b ?_), h.ris, h.nod⟩
  rw [e]; simp only [List.mem_cons, List.mem_map]; exact .inr (.inr ⟨f, hf, rfl⟩)
/-- The struct's other cells have turned. -/
theorem Dkm.head (h : Dkm w S d m L room fuse off) (k : Step [d] [d] w w') {room' fuse' : Int} {off' : Bool} (hb : Blk w' d 58 (dkc m room' fuse' off')) : Dkm w' S d m L room' fuse' off' := by
  have hm := h.m_ne h.blk
  refine ⟨h.hS, hb, owns_far h.own k (by simpa using hm), fun f hf => (h.fil f hf).step k (by simpa using h.f_ne hf), h.ris, h.nod⟩
/-- One file has turned. -/
theorem Dkm.file {A B : List Fil} {f g : Fil} (h : Dkm w S d m (A ++ f :: B) room fuse off) (k : Step [f.b] [f.b] w w') (hn : g.n = f.n) (hbb : g.b = f.b) (hb : Blk w' f.b 63 (flc g.d g.l)) : Dkm w' S d m (A ++ g :: B) room fuse off := by
  have hf := h.fil f (by simp)
  have hm := h.m_ne hf
  have hd := h.f_ne (f := f) (by simp)
  have hnod := h.nod
  rw [List.map_append, List.map_cons] at hnod
  obtain ⟨n1, n2, n3⟩ := List.nodup_append.1 hnod
  obtain ⟨n4, n5⟩ := List.nodup_cons.1 n2
  have hdat : dat (A ++ g :: B) = dat (A ++ f :: B) := by simp [dat, ent, hn, hbb]
  refine ⟨?_, h.blk.step k (by simpa using fun e => hd e.symm), ?_, fun x hx => ?_, ris_set h.ris hn, ?_⟩
  · rw [h.hS]; simp [hbb]
  · rw [hdat, show (A ++ g :: B).length = (A ++ f :: B).length by simp]; exact owns_far h.own k (by simpa using hm)
  · rcases List.mem_append.1 hx with hx | hx
    · refine (h.fil x (by simp [hx])).step k ?_
      simp only [List.mem_singleton]
      exact n3 x.b (List.mem_map.2 ⟨x, hx, rfl⟩) f.b (by simp)
    · rcases List.mem_cons.1 hx with rfl | hx
      · rw [hbb]; exact hb
      · refine (h.fil x (by simp [hx])).step k ?_
        simp only [List.mem_singleton]
        intro e
        exact n4 (List.mem_map.2 ⟨x, hx, e⟩)
  · rw [List.map_append, List.map_cons, hbb, ← List.map_cons (f := Fil.b), ← List.map_append]; exact h.nod
theorem Dkm.memS (h : Dkm w S d m L room fuse off) {f : Fil} (hf : f ∈ L) : f.b ∈ S := by rw [h.hS]; simp only [List.mem_cons, List.mem_map]; exact .inr (.inr ⟨f, hf, rfl⟩)
theorem Dk.step {s : St} (h : Dk w S d s) (k : Step S' S'' w w') (hn : ∀ x ∈ S, x ∉ S') : Dk w' S d s := by
  obtain ⟨m, L, h1, h2⟩ := h
  exact ⟨m, L, h1.step k hn, h2⟩
theorem Dk.keep {s : St} (h : Dk w S d s) (k : Step [] S'' w w') : Dk w' S d s := h.step k (by simp)
theorem Dk.ris {s : St} (h : Dk w S d s) : ERis s.E := by obtain ⟨m, L, h1, h2⟩ := h; rw [← h2]; exact ris_en.2 h1.ris
theorem Dk.lt {s : St} (h : Dk w S d s) : ∀ k ∈ S, k < w.heap.size := by obtain ⟨m, L, h1, h2⟩ := h; exact h1.lt
theorem Dk.memd {s : St} (h : Dk w S d s) : d ∈ S := by obtain ⟨m, L, h1, h2⟩ := h; rw [h1.hS]; simp
end

theorem down_any (w : World) (d m : Nat) (room fuse : Int) (off : Bool) (h : Blk w d 58 (dkc m room fuse off)) : Calls Tryd.prog 16 #[.pointer (some ⟨d, 0, none⟩)] w fun e w' => e = .returned (.bool off) ∧ w = w' := by
  have c3 := h.cell 3
  simp only [List.getElem?_toArray, List.getElem?_cons_zero, List.getElem?_cons_succ] at c3
  go_enter Tryd.func16, Tryd.ntmps16
  go_wp2_with fail
  exact bodyPost_ret (results_tmp rfl _ _ _) rfl ⟨rfl, rfl⟩
theorem down_nil (w : World) : Calls Tryd.prog 16 #[.pointer none] w fun e w' => e = .returned (.bool true) ∧ w = w' := by
  go_enter Tryd.func16, Tryd.ntmps16
  go_wp2_with fail
  exact bodyPost_ret (results_tmp rfl _ _ _) rfl ⟨rfl, rfl⟩
theorem all_any (w : World) (b : Nat) (d l : List UInt8) (h : Blk w b 63 (flc d l)) (hs : d.length + l.length ≤ 9223372036854775807) : Calls Tryd.prog 28 #[.pointer (some ⟨b, 0, none⟩)] w fun e w' => e = .returned (Str (d ++ l)) ∧ Step [] [] w w' := by
  have c0 := h.cell 0
  have c1 := h.cell 1
  simp only [List.getElem?_toArray, List.getElem?_cons_zero, List.getElem?_cons_succ] at c0 c1
  go_enter Tryd.func28, Tryd.ntmps28
  go_wp2_with fail
  go_quiet (fail)
  go_wp2_with fail
  exact bodyPost_ret (results_tmp rfl _ _ _) rfl ⟨rfl, (Step.refl _ _).drewN _⟩
def burnF (fuse : Int) : Int := if 0 < fuse then fuse - 1 else fuse
def burnO (fuse : Int) (off : Bool) : Bool := off || decide (fuse = 0)
theorem burns_any (w : World) (d m : Nat) (room fuse : Int) (off : Bool) (h : Blk w d 58 (dkc m room fuse off)) (hf : fuse ≤ 9223372036854775807) : Calls Tryd.prog 26 #[.pointer (some ⟨d, 0, none⟩)] w fun e w' => e = .returned (.bool (burnO fuse off)) ∧ Blk w' d 58 (dkc m room (burnF fuse) (burnO fuse off)) ∧ Step [d] [d] w w' := by
  have c2 := h.cell 2
  have c3 := h.cell 3
  simp only [List.getElem?_toArray, List.getElem?_cons_zero, List.getElem?_cons_succ] at c2 c3
  have f2 := h.frozen 2
  have f3 := h.frozen 3
  have fl := h.lt
  have HB := Lib.hid h
  clear h
  go_enter Tryd.func26, Tryd.ntmps26
  by_cases h0 : fuse = 0
  · subst h0
    go_wp2_with fail
    refine bodyPost_ret (results_tmp rfl _ _ _) rfl ⟨by simp [burnO], ?_, (Step.refl [d] w).setCell (p := ⟨d, 3, none⟩) (.inl (by simp)) _⟩
    simpa [burnO, burnF] using HB.out.set 3 (.bool true)
  · have hd : (fuse == 0) = false := by simpa using h0
    by_cases h1 : 0 < fuse
    · have h1d : decide (0 < fuse) = true := decide_eq_true h1
      go_wp2_with fail
      refine bodyPost_ret (results_tmp rfl _ _ _) rfl ⟨by simp [burnO, h0], ?_, (Step.refl [d] w).setCell (p := ⟨d, 2, none⟩) (.inl (by simp)) _⟩
      simpa [burnO, burnF, h0, h1] using HB.out.set 2 (.int .i64 (fuse - 1))
    · have h1d : decide (0 < fuse) = false := decide_eq_false h1
      go_wp2_with fail
      refine bodyPost_ret (results_tmp rfl _ _ _) rfl ⟨by simp [burnO, h0], ?_, Step.refl _ _⟩
      rw [show burnF fuse = fuse from if_neg (by omega), show burnO fuse off = off by simp [burnO, h0]]
      exact HB.out
def findV (off : Bool) (g : Option Fil) : Value := if off then .tuple #[.pointer none, .int .i64 7] else match g with | some f => .tuple #[.pointer (some ⟨f.b, 0, none⟩), .int .i64 0] | none => .tuple #[.pointer none, .int .i64 8]
theorem find_nil (x : List UInt8) (w : World) : Calls Tryd.prog 27 #[.pointer none, Str x] w fun e w' => e = .returned (.tuple #[.pointer none, .int .i64 7]) ∧ w = w' := by
  go_enter Tryd.func27, Tryd.ntmps27
  go_wp2_with fail
  refine (down_nil w).mono ?_
  rintro e w1 ⟨rfl, rfl⟩
  go_wp2_with fail
  refine bodyPost_ret (v := .tuple #[.pointer none, .int .i64 7]) ?_ rfl ⟨rfl, rfl⟩
  simp [results, Tryd.results27, go_sem]
theorem find_any (x : List UInt8) (w : World) (S : List Nat) (d m : Nat) (L : List Fil) (room fuse : Int) (off : Bool) (h : Dkm w S d m L room fuse off) (hx : x.length ≤ 1099511627776) : Calls Tryd.prog 27 #[.pointer (some ⟨d, 0, none⟩), Str x] w fun e w' => e = .returned (findV off (fget L x)) ∧ w = w' := by
  have hl := owns_look_ok (t := 56) (e := 60) h.own Tryd.underlying9 Tryd.underlying56 (Tryd.zeroValue60 w) x (by unfold maxLen; omega)
  have c0 := h.blk.cell 0
  simp only [List.getElem?_toArray, List.getElem?_cons_zero, List.getElem?_cons_succ] at c0
  have HB := Lib.hid h
  clear h
  go_enter Tryd.func27, Tryd.ntmps27
  go_wp2_with fail
  refine (down_any w d m room fuse off HB.out.blk).mono ?_
  rintro e w1 ⟨rfl, rfl⟩
  cases off with
  | true =>
    go_wp2_with fail
    refine bodyPost_ret (v := .tuple #[.pointer none, .int .i64 7]) ?_ rfl ⟨rfl, rfl⟩
    simp [results, Tryd.results27, go_sem]
  | false =>
    cases hg : fget L x with
    | none =>
      rw [hg] at hl
      have HG := Lib.hid hg
      clear hg
      simp only at hl
      go_wp2_with fail
      refine bodyPost_ret (v := .tuple #[.pointer none, .int .i64 8]) ?_ rfl ⟨by rw [HG.out]; rfl, rfl⟩
      simp [results, Tryd.results27, go_sem]
    | some f =>
      rw [hg] at hl
      have HG := Lib.hid hg
      clear hg
      simp only at hl
      go_wp2_with fail
      refine bodyPost_ret (v := .tuple #[.pointer (some ⟨f.b, 0, none⟩), .int .i64 0]) ?_ rfl ⟨by rw [HG.out]; rfl, rfl⟩
      simp [results, Tryd.results27, go_sem]

end Go.Proofs.YtfkjgkgflkhbnaaDoor
