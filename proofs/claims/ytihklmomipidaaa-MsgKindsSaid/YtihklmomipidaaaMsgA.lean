/-
  Entries in memory, messages as interface values; slices.Clone of entries, each kind's Flat, Of. Condition: at most 2^40 entries.
-/
import Derived.Test.YtihklmomipidaaaMsgPlain
import Derived.Test.YtihklmomipidaaaMem5
import Derived.Lib.SliceRun
import Derived.Deep.OwnRows
namespace Go.Proofs.Ytihklmomipidaaa
open Go.RowKit
set_option linter.unusedSimpArgs false
set_option linter.unusedVariables false
set_option maxRecDepth 100000

def entc (e : Ent) : List Value := [.int .i64 e.index, .int .i64 e.term, Str e.data]
def entcs (l : List Ent) : List Value := l.flatMap entc
theorem entc_len (e : Ent) : (entc e).length = 3 := rfl
theorem entcs_len (l : List Ent) : (entcs l).length = l.length * 3 := by
  induction l with
  | nil => rfl
  | cons x l ih => simp [entcs, entc] at ih ⊢; omega
theorem entcs_append (l m : List Ent) : entcs (l ++ m) = entcs l ++ entcs m := by simp [entcs]
theorem entcs_at (l : List Ent) (i : Nat) (x : Ent) (h : l[i]? = some x) (j : Nat) (hj : j < 3) : (entcs l)[i * 3 + j]? = (entc x)[j]? := by
  induction l generalizing i with
  | nil => simp at h
  | cons y l ih =>
    cases i with
    | zero =>
      simp at h
      subst h
      simp only [entcs, List.flatMap_cons, Nat.zero_mul, Nat.zero_add]
      rw [List.getElem?_append_left (by simp [entc]; omega)]
    | succ i =>
      simp at h
      have := ih i h
      simp only [entcs, List.flatMap_cons] at this ⊢
      rw [List.getElem?_append_right (by simp [entc]; omega), ← this]
      congr 1
      simp [entc]
      omega
theorem entcs_one (l : List Ent) : ∀ u ∈ entcs l, u.oneCell' = true := by
  intro u hu
  simp only [entcs, List.mem_flatMap] at hu
  obtain ⟨x, _, hx⟩ := hu
  simp [entc] at hx
  rcases hx with rfl | rfl | rfl <;> rfl
theorem rd_ent {w : World} {l : List Ent} {g off : Nat} {sp n} (h : Rd w 3 (some ⟨g, off, sp⟩) n (entcs l)) {k : Nat} {x : Ent} (hx : l[k]? = some x) :
    w.cell? ⟨g, off + k * 3, none⟩ = some (.int .i64 x.index) ∧ w.cell? ⟨g, off + k * 3 + 1, none⟩ = some (.int .i64 x.term) ∧ w.cell? ⟨g, off + k * 3 + 2, none⟩ = some (Str x.data) :=
  ⟨h.cell g off sp rfl (k * 3 + 0) _ ((entcs_at l k _ hx 0 (by omega)).trans rfl), h.cell g off sp rfl (k * 3 + 1) _ ((entcs_at l k _ hx 1 (by omega)).trans rfl),
   h.cell g off sp rfl (k * 3 + 2) _ ((entcs_at l k _ hx 2 (by omega)).trans rfl)⟩
theorem Try.info_ent : (Try.prog.info? 60).map (fun i => (i.zero, i.size, i.bytes)) = some (some (.agg #[.int .i64 0, .int .i64 0, .string ⟨#[]⟩]), 3, 32) := by kernel_rfl
def CloneE (l : List Ent) (w : World) (e : Ending) (w' : World) : Prop := ∃ a cap, e = .returned (.slice a l.length cap) ∧ Rd w' 3 a l.length (entcs l) ∧ Step [] (blks a) w w'
set_option maxHeartbeats 1000000 in
theorem cloneE_any (l : List Ent) (a : Option Addr) (cap : Nat) (w : World) (hr : Rd w 3 a l.length (entcs l)) (hl : l.length ≤ 4398046511104) :
    Calls Try.prog 23 #[.slice a l.length cap] w (CloneE l w) := by
  obtain ⟨i0, hi, hz0, hz1, hz2⟩ := info_parts Try.info_ent
  have HI := Lib.hid (And.intro hi (And.intro hz0 (And.intro hz1 hz2)))
  clear hi hz0 hz1 hz2
  cases a with
  | none =>
    have hn : l = [] := by
      rcases Nat.eq_zero_or_pos l.length with h0 | h0
      · exact List.eq_nil_of_length_eq_zero h0
      · obtain ⟨g, off, e⟩ := hr.some_ h0; cases e
    subst hn
    clear hr
    go_enter Try.func23, Try.ntmps23
    have hq := fun W => Lib.run_eql_slice_nil (P := Try.prog) W 22 _ none 0 cap 0 0 Try.underlying22
    simp only [Option.isNone_none] at hq
    go_wp2_with fail
    refine bodyPost_ret (results_tmp rfl _ _ _) rfl ⟨none, 0, rfl, (Row.none w 3).rd, Step.refl _ _⟩
  | some ad =>
    have HS : Hid (Src Try.prog (w.alloc (.cells #[] 60)) 3 22 (.slice (some ad) l.length cap) l.length (entcs l)) := Src.rd _ _ Try.underlying22 (hr.alloc _) (entcs_one l)
    have hq := fun W => Lib.run_eql_slice_nil (P := Try.prog) W 22 _ (some ad) l.length cap 0 0 Try.underlying22
    simp only [Option.isNone_some] at hq
    clear hr
    go_enter Try.func23, Try.ntmps23
    go_wp2_with (at_builtin; refine wpList_append_row rfl (.tmp 5) (.tmp 6) 22 22 rfl 60 i0 _ 3 32 Try.underlying22 HI.out.1 HI.out.2.1 HI.out.2.2.1 HI.out.2.2.2 rfl rfl (Row.empty w _ 3) rfl HS.out (by unfold maxLen; omega) (by omega) (by omega) ?_; intro a' c' w1 hr1 hst1)
    rw [Nat.zero_add] at hr1
    have H1 := Lib.hid (And.intro hr1 hst1)
    clear hr1 hst1
    go_wp2_with fail
    refine bodyPost_ret (results_tmp rfl _ _ _) rfl ⟨a', c', by simp, H1.out.1.rd, ?_⟩
    exact (((Step.refl [] w).hold _).trans H1.out.2).drop (by simp)

def rwc (x : Rw) (s : Value) : List Value := [.int .i64 x.kind, .int .i64 x.src, .int .i64 x.term, .int .i64 x.index, .int .i64 x.last, .int .i64 x.commit, .int .i64 x.round, .bool x.yes, s, Str x.data]
abbrev rwV (x : Rw) (s : Value) : Value := .agg #[.int .i64 x.kind, .int .i64 x.src, .int .i64 x.term, .int .i64 x.index, .int .i64 x.last, .int .i64 x.commit, .int .i64 x.round, .bool x.yes, s, Str x.data]
theorem Blk.rw {w : World} {b : Nat} {T : TypeId} {x : Rw} {s : Value} (h : Blk w b T (rwc x s).toArray) : w.cell? ⟨b, 0, none⟩ = some (.int .i64 x.kind) ∧ w.cell? ⟨b, 1, none⟩ = some (.int .i64 x.src) ∧ w.cell? ⟨b, 2, none⟩ = some (.int .i64 x.term) ∧ w.cell? ⟨b, 3, none⟩ = some (.int .i64 x.index) ∧
    w.cell? ⟨b, 4, none⟩ = some (.int .i64 x.last) ∧ w.cell? ⟨b, 5, none⟩ = some (.int .i64 x.commit) ∧ w.cell? ⟨b, 6, none⟩ = some (.int .i64 x.round) ∧ w.cell? ⟨b, 7, none⟩ = some (.bool x.yes) ∧ w.cell? ⟨b, 8, none⟩ = some s ∧ w.cell? ⟨b, 9, none⟩ = some (Str x.data) := by
  refine ⟨?_, ?_, ?_, ?_, ?_, ?_, ?_, ?_, ?_, ?_⟩ <;> (rw [h.cell]; rfl)

theorem flat1_any (x : Rw) (w : World) (hk : x.kind = 1) : Calls Try.prog 67 #[.agg #[.int .i64 x.src, .int .i64 x.term, .int .i64 x.index, .int .i64 x.last]] w fun e w' => e = .returned (rwV (cleanL x) (.slice none 0 0)) ∧ Step [] [] w w' := by
  have hc : cleanL x = cleanL x := rfl
  have HC := Lib.hid (show cleanL x = ⟨1, x.src, x.term, x.index, x.last, 0, 0, false, [], []⟩ by simp [cleanL, hk])
  clear hk hc
  go_enter Try.func67, Try.ntmps67
  go_wp2_with fail
  refine bodyPost_ret (v := rwV (cleanL x) (.slice none 0 0)) ?_ rfl ⟨rfl, ((Step.refl [] w).alloc _).alloc _⟩
  rw [HC.out]
  simp [results, Try.results67, go_sem]

theorem flat2_any (x : Rw) (w : World) (hk : x.kind = 2) : Calls Try.prog 66 #[.agg #[.int .i64 x.src, .int .i64 x.term, .bool x.yes]] w fun e w' => e = .returned (rwV (cleanL x) (.slice none 0 0)) ∧ Step [] [] w w' := by
  have hc : cleanL x = cleanL x := rfl
  have HC := Lib.hid (show cleanL x = ⟨2, x.src, x.term, 0, 0, 0, 0, x.yes, [], []⟩ by simp [cleanL, hk])
  clear hk hc
  go_enter Try.func66, Try.ntmps66
  go_wp2_with fail
  refine bodyPost_ret (v := rwV (cleanL x) (.slice none 0 0)) ?_ rfl ⟨rfl, ((Step.refl [] w).alloc _).alloc _⟩
  rw [HC.out]
  simp [results, Try.results66, go_sem]

theorem flat4_any (x : Rw) (w : World) (hk : x.kind = 4) : Calls Try.prog 68 #[.agg #[.int .i64 x.src, .int .i64 x.term, .int .i64 x.index, .int .i64 x.round, .bool x.yes]] w fun e w' => e = .returned (rwV (cleanL x) (.slice none 0 0)) ∧ Step [] [] w w' := by
  have hc : cleanL x = cleanL x := rfl
  have HC := Lib.hid (show cleanL x = ⟨4, x.src, x.term, x.index, 0, 0, x.round, x.yes, [], []⟩ by simp [cleanL, hk])
  clear hk hc
  go_enter Try.func68, Try.ntmps68
  go_wp2_with fail
  refine bodyPost_ret (v := rwV (cleanL x) (.slice none 0 0)) ?_ rfl ⟨rfl, ((Step.refl [] w).alloc _).alloc _⟩
  rw [HC.out]
  simp [results, Try.results68, go_sem]

theorem flat5_any (x : Rw) (w : World) (hk : x.kind = 5) : Calls Try.prog 22 #[.agg #[.int .i64 x.src, .int .i64 x.term, .int .i64 x.index, .int .i64 x.last, .int .i64 x.round, Str x.data]] w fun e w' => e = .returned (rwV (cleanL x) (.slice none 0 0)) ∧ Step [] [] w w' := by
  have hc : cleanL x = cleanL x := rfl
  have HC := Lib.hid (show cleanL x = ⟨5, x.src, x.term, x.index, x.last, 0, x.round, false, [], x.data⟩ by simp [cleanL, hk])
  clear hk hc
  go_enter Try.func22, Try.ntmps22
  go_wp2_with fail
  refine bodyPost_ret (v := rwV (cleanL x) (.slice none 0 0)) ?_ rfl ⟨rfl, ((Step.refl [] w).alloc _).alloc _⟩
  rw [HC.out]
  simp [results, Try.results22, go_sem]

def putRw (w : World) (b : Nat) (x : Rw) (s : Value) : World := (((((((((w.setCell ⟨b, 0, none⟩ (.int .i64 x.kind)).setCell ⟨b, 1, none⟩ (.int .i64 x.src)).setCell ⟨b, 2, none⟩ (.int .i64 x.term)).setCell ⟨b, 3, none⟩ (.int .i64 x.index)).setCell ⟨b, 4, none⟩ (.int .i64 x.last)).setCell ⟨b, 5, none⟩ (.int .i64 x.commit)).setCell ⟨b, 6, none⟩ (.int .i64 x.round)).setCell ⟨b, 7, none⟩ (.bool x.yes)).setCell ⟨b, 8, none⟩ s).setCell ⟨b, 9, none⟩ (Str x.data)
theorem Blk.putRw {w : World} {b : Nat} {T : TypeId} {y0 y1 y2 y3 y4 y5 y6 y7 y8 y9 : Value} (h : Blk w b T #[y0, y1, y2, y3, y4, y5, y6, y7, y8, y9]) (x : Rw) (s : Value) : Blk (putRw w b x s) b T (rwc x s).toArray := by
  have k := (((((((((Blk.set h 0 (.int .i64 x.kind)).set 1 (.int .i64 x.src)).set 2 (.int .i64 x.term)).set 3 (.int .i64 x.index)).set 4 (.int .i64 x.last)).set 5 (.int .i64 x.commit)).set 6 (.int .i64 x.round)).set 7 (.bool x.yes)).set 8 s).set 9 (Str x.data)
  simpa [Go.Proofs.Ytihklmomipidaaa.putRw, rwc] using k
theorem step_putRw (w : World) (b : Nat) (x : Rw) (s : Value) : Step [b] [b] w (putRw w b x s) :=
  (((((((((((Step.refl [b] w).setCell (.inl (by simp)) _).setCell (.inl (by simp)) _).setCell (.inl (by simp)) _).setCell (.inl (by simp)) _).setCell (.inl (by simp)) _).setCell (.inl (by simp)) _).setCell (.inl (by simp)) _).setCell (.inl (by simp)) _).setCell (.inl (by simp)) _).setCell (.inl (by simp)) _)
/-- What turned alone a block that was not there. -/
theorem Step.out1 {w w1 w' : World} {b : Nat} {S' : List Nat} (h : Step [] [] w w1) (k : Step [b] S' w1 w') (hb : w.heap.size ≤ b) : Step [] [] w w' :=
  ⟨k.os.trans h.os, k.tape.trans h.tape, k.output.trans h.output, Nat.le_trans h.size k.size, fun g hg _ => by
    refine (k.block g (Nat.lt_of_lt_of_le hg h.size) fun hm => ?_).trans (h.block g hg (by simp))
    simp at hm
    omega, fun g hg => by simp at hg⟩
theorem blk2 (w : World) (t0 t1 : TypeId) (c0 c1 : Array Value) : Blk ((w.alloc (.cells c0 t0)).alloc (.cells c1 t1)) w.heap.size t0 c0 ∧ Blk ((w.alloc (.cells c0 t0)).alloc (.cells c1 t1)) (w.heap.size + 1) t1 c1 := by
  have s1 : ∀ o, (w.alloc o).heap.size = w.heap.size + 1 := fun o => by simp
  refine ⟨(Blk.new w t0 c0).alloc _, ?_⟩
  have := Blk.new (w.alloc (.cells c0 t0)) t1 c1
  rwa [s1] at this
def RawPost (x : Rw) (w : World) (e : Ending) (w' : World) : Prop := ∃ a cap, e = .returned (rwV x (.slice a x.es.length cap)) ∧ Rd w' 3 a x.es.length (entcs x.es) ∧ Step [] [] w w'
set_option maxHeartbeats 2000000 in
theorem flat3_any (x : Rw) (a : Option Addr) (cap : Nat) (w : World) (hk : x.kind = 3) (hr : Rd w 3 a x.es.length (entcs x.es)) (hl : x.es.length ≤ 4398046511104) : Calls Try.prog 21 #[.agg #[.int .i64 x.src, .int .i64 x.term, .int .i64 x.index, .int .i64 x.last, .int .i64 x.commit, .int .i64 x.round, .slice a x.es.length cap]] w (RawPost (cleanL x) w) := by
  have HC := Lib.hid (show cleanL x = ⟨3, x.src, x.term, x.index, x.last, x.commit, x.round, false, x.es, []⟩ by simp [cleanL, hk])
  have H0 : Hid (Blk ((w.alloc (.cells #[.int .i64 x.src, .int .i64 x.term, .int .i64 x.index, .int .i64 x.last, .int .i64 x.commit, .int .i64 x.round, .slice a x.es.length cap] 47)).alloc (.cells #[.int .i64 0, .int .i64 0, .int .i64 0, .int .i64 0, .int .i64 0, .int .i64 0, .int .i64 0, .bool false, .slice none 0 0, Str []] 24)) w.heap.size 47 #[.int .i64 x.src, .int .i64 x.term, .int .i64 x.index, .int .i64 x.last, .int .i64 x.commit, .int .i64 x.round, .slice a x.es.length cap] ∧ Blk ((w.alloc (.cells #[.int .i64 x.src, .int .i64 x.term, .int .i64 x.index, .int .i64 x.last, .int .i64 x.commit, .int .i64 x.round, .slice a x.es.length cap] 47)).alloc (.cells #[.int .i64 0, .int .i64 0, .int .i64 0, .int .i64 0, .int .i64 0, .int .i64 0, .int .i64 0, .bool false, .slice none 0 0, Str []] 24)) (w.heap.size + 1) 24 #[.int .i64 0, .int .i64 0, .int .i64 0, .int .i64 0, .int .i64 0, .int .i64 0, .int .i64 0, .bool false, .slice none 0 0, Str []] ∧ Rd ((w.alloc (.cells #[.int .i64 x.src, .int .i64 x.term, .int .i64 x.index, .int .i64 x.last, .int .i64 x.commit, .int .i64 x.round, .slice a x.es.length cap] 47)).alloc (.cells #[.int .i64 0, .int .i64 0, .int .i64 0, .int .i64 0, .int .i64 0, .int .i64 0, .int .i64 0, .bool false, .slice none 0 0, Str []] 24)) 3 a x.es.length (entcs x.es) ∧ Step [] [] w ((w.alloc (.cells #[.int .i64 x.src, .int .i64 x.term, .int .i64 x.index, .int .i64 x.last, .int .i64 x.commit, .int .i64 x.round, .slice a x.es.length cap] 47)).alloc (.cells #[.int .i64 0, .int .i64 0, .int .i64 0, .int .i64 0, .int .i64 0, .int .i64 0, .int .i64 0, .bool false, .slice none 0 0, Str []] 24))) :=
    ⟨(blk2 w _ _ _ _).1, (blk2 w _ _ _ _).2, (hr.alloc _).alloc _, ((Step.refl [] w).alloc _).alloc _⟩
  clear hk hr
  go_enter Try.func21, Try.ntmps21
  go_upto_region 1 with fail
  obtain ⟨b, hb⟩ : ∃ b, b = w.heap.size := ⟨_, rfl⟩
  obtain ⟨V, hV⟩ : ∃ V, V = (w.alloc (.cells #[.int .i64 x.src, .int .i64 x.term, .int .i64 x.index, .int .i64 x.last, .int .i64 x.commit, .int .i64 x.round, .slice a x.es.length cap] 47)).alloc (.cells #[.int .i64 0, .int .i64 0, .int .i64 0, .int .i64 0, .int .i64 0, .int .i64 0, .int .i64 0, .bool false, .slice none 0 0, Str []] 24) := ⟨_, rfl⟩
  have H1 : Hid (Blk V b 47 #[.int .i64 x.src, .int .i64 x.term, .int .i64 x.index, .int .i64 x.last, .int .i64 x.commit, .int .i64 x.round, .slice a x.es.length cap] ∧ Blk V (b + 1) 24 #[.int .i64 0, .int .i64 0, .int .i64 0, .int .i64 0, .int .i64 0, .int .i64 0, .int .i64 0, .bool false, .slice none 0 0, Str []] ∧ Rd V 3 a x.es.length (entcs x.es) ∧ Step [] [] w V ∧ b = w.heap.size) := by rw [hV, hb]; exact ⟨H0.out.1, H0.out.2.1, H0.out.2.2.1, H0.out.2.2.2, rfl⟩
  rw [← hb]
  first
    | rw [← hV]
    | rw [show (w.alloc (.cells #[.int .i64 x.src, .int .i64 x.term, .int .i64 x.index, .int .i64 x.last, .int .i64 x.commit, .int .i64 x.round, .slice a x.es.length cap] 47)).alloc (.cells #[.int .i64 0, .int .i64 0, .int .i64 0, .int .i64 0, .int .i64 0, .int .i64 0, .int .i64 0, .bool false, .slice none 0 0, .string ⟨#[]⟩] 24) = V from hV.symm]
  clear hV hb H0
  refine wp_region_held_drew (S := fun V => Hid (Blk V b 47 #[.int .i64 x.src, .int .i64 x.term, .int .i64 x.index, .int .i64 x.last, .int .i64 x.commit, .int .i64 x.round, .slice a x.es.length cap])) (by kernel_rfl) (Lib.hid H1.out.1.drew) (fun hHeld => ?_)
  refine wpAnyH_take (i := 0) (v := ?_) rfl (by kernel_rfl) (by kernel_rfl) (by kernel_rfl) (fun _ _ _ h => h) (Or.inl ⟨by rfl, ?_⟩) hHeld ?_
  rotate_left
  · intro w hSw
    have hSw1 := hSw
    clear hSw
    try dsimp only at hSw1
    go_simp
    try (with_reducible rfl)
  try simp only [Act.put, List.setIfInBounds_toArray, List.set_cons_zero, List.set_cons_succ, List.getElem_toArray, List.getElem_cons_zero, List.getElem_cons_succ]
  refine wpAnyH_take (i := 1) (v := ?_) rfl (by kernel_rfl) (by kernel_rfl) (by kernel_rfl) (fun _ _ _ h => h) (Or.inl ⟨by rfl, ?_⟩) hHeld ?_
  rotate_left
  · intro w hSw
    have hSw1 := hSw
    clear hSw
    have hb0 := hSw1.out.cell 0
    have hb1 := hSw1.out.cell 1
    have hb2 := hSw1.out.cell 2
    have hb3 := hSw1.out.cell 3
    have hb4 := hSw1.out.cell 4
    have hb5 := hSw1.out.cell 5
    have hb6 := hSw1.out.cell 6
    have hbl := hSw1.out.lt
    simp only [List.getElem?_toArray, List.getElem?_cons_zero, List.getElem?_cons_succ] at hb0 hb1 hb2 hb3 hb4 hb5 hb6
    go_simp
    try (with_reducible rfl)
  try simp only [Act.put, List.setIfInBounds_toArray, List.set_cons_zero, List.set_cons_succ, List.getElem_toArray, List.getElem_cons_zero, List.getElem_cons_succ]
  refine wpAnyH_take (i := 2) (v := ?_) rfl (by kernel_rfl) (by kernel_rfl) (by kernel_rfl) (fun _ _ _ h => h) (Or.inl ⟨by rfl, ?_⟩) hHeld ?_
  rotate_left
  · intro w hSw
    have hSw1 := hSw
    clear hSw
    try dsimp only at hSw1
    go_simp
    try (with_reducible rfl)
  try simp only [Act.put, List.setIfInBounds_toArray, List.set_cons_zero, List.set_cons_succ, List.getElem_toArray, List.getElem_cons_zero, List.getElem_cons_succ]
  refine wpAnyH_take (i := 3) (v := ?_) rfl (by kernel_rfl) (by kernel_rfl) (by kernel_rfl) (fun _ _ _ h => h) (Or.inl ⟨by rfl, ?_⟩) hHeld ?_
  rotate_left
  · intro w hSw
    have hSw1 := hSw
    clear hSw
    have hb0 := hSw1.out.cell 0
    have hb1 := hSw1.out.cell 1
    have hb2 := hSw1.out.cell 2
    have hb3 := hSw1.out.cell 3
    have hb4 := hSw1.out.cell 4
    have hb5 := hSw1.out.cell 5
    have hb6 := hSw1.out.cell 6
    have hbl := hSw1.out.lt
    simp only [List.getElem?_toArray, List.getElem?_cons_zero, List.getElem?_cons_succ] at hb0 hb1 hb2 hb3 hb4 hb5 hb6
    go_simp
    try (with_reducible rfl)
  try simp only [Act.put, List.setIfInBounds_toArray, List.set_cons_zero, List.set_cons_succ, List.getElem_toArray, List.getElem_cons_zero, List.getElem_cons_succ]
  refine wpAnyH_take (i := 4) (v := ?_) rfl (by kernel_rfl) (by kernel_rfl) (by kernel_rfl) (fun _ _ _ h => h) (Or.inl ⟨by rfl, ?_⟩) hHeld ?_
  rotate_left
  · intro w hSw
    have hSw1 := hSw
    clear hSw
    try dsimp only at hSw1
    go_simp
    try (with_reducible rfl)
  try simp only [Act.put, List.setIfInBounds_toArray, List.set_cons_zero, List.set_cons_succ, List.getElem_toArray, List.getElem_cons_zero, List.getElem_cons_succ]
  refine wpAnyH_take (i := 5) (v := ?_) rfl (by kernel_rfl) (by kernel_rfl) (by kernel_rfl) (fun _ _ _ h => h) (Or.inl ⟨by rfl, ?_⟩) hHeld ?_
  rotate_left
  · intro w hSw
    have hSw1 := hSw
    clear hSw
    have hb0 := hSw1.out.cell 0
    have hb1 := hSw1.out.cell 1
    have hb2 := hSw1.out.cell 2
    have hb3 := hSw1.out.cell 3
    have hb4 := hSw1.out.cell 4
    have hb5 := hSw1.out.cell 5
    have hb6 := hSw1.out.cell 6
    have hbl := hSw1.out.lt
    simp only [List.getElem?_toArray, List.getElem?_cons_zero, List.getElem?_cons_succ] at hb0 hb1 hb2 hb3 hb4 hb5 hb6
    go_simp
    try (with_reducible rfl)
  try simp only [Act.put, List.setIfInBounds_toArray, List.set_cons_zero, List.set_cons_succ, List.getElem_toArray, List.getElem_cons_zero, List.getElem_cons_succ]
  refine wpAnyH_take (i := 6) (v := ?_) rfl (by kernel_rfl) (by kernel_rfl) (by kernel_rfl) (fun _ _ _ h => h) (Or.inl ⟨by rfl, ?_⟩) hHeld ?_
  rotate_left
  · intro w hSw
    have hSw1 := hSw
    clear hSw
    try dsimp only at hSw1
    go_simp
    try (with_reducible rfl)
  try simp only [Act.put, List.setIfInBounds_toArray, List.set_cons_zero, List.set_cons_succ, List.getElem_toArray, List.getElem_cons_zero, List.getElem_cons_succ]
  refine wpAnyH_take (i := 7) (v := ?_) rfl (by kernel_rfl) (by kernel_rfl) (by kernel_rfl) (fun _ _ _ h => h) (Or.inl ⟨by rfl, ?_⟩) hHeld ?_
  rotate_left
  · intro w hSw
    have hSw1 := hSw
    clear hSw
    have hb0 := hSw1.out.cell 0
    have hb1 := hSw1.out.cell 1
    have hb2 := hSw1.out.cell 2
    have hb3 := hSw1.out.cell 3
    have hb4 := hSw1.out.cell 4
    have hb5 := hSw1.out.cell 5
    have hb6 := hSw1.out.cell 6
    have hbl := hSw1.out.lt
    simp only [List.getElem?_toArray, List.getElem?_cons_zero, List.getElem?_cons_succ] at hb0 hb1 hb2 hb3 hb4 hb5 hb6
    go_simp
    try (with_reducible rfl)
  try simp only [Act.put, List.setIfInBounds_toArray, List.set_cons_zero, List.set_cons_succ, List.getElem_toArray, List.getElem_cons_zero, List.getElem_cons_succ]
  refine wpAnyH_take (i := 8) (v := ?_) rfl (by kernel_rfl) (by kernel_rfl) (by kernel_rfl) (fun _ _ _ h => h) (Or.inl ⟨by rfl, ?_⟩) hHeld ?_
  rotate_left
  · intro w hSw
    have hSw1 := hSw
    clear hSw
    try dsimp only at hSw1
    go_simp
    try (with_reducible rfl)
  try simp only [Act.put, List.setIfInBounds_toArray, List.set_cons_zero, List.set_cons_succ, List.getElem_toArray, List.getElem_cons_zero, List.getElem_cons_succ]
  refine wpAnyH_take (i := 9) (v := ?_) rfl (by kernel_rfl) (by kernel_rfl) (by kernel_rfl) (fun _ _ _ h => h) (Or.inl ⟨by rfl, ?_⟩) hHeld ?_
  rotate_left
  · intro w hSw
    have hSw1 := hSw
    clear hSw
    have hb0 := hSw1.out.cell 0
    have hb1 := hSw1.out.cell 1
    have hb2 := hSw1.out.cell 2
    have hb3 := hSw1.out.cell 3
    have hb4 := hSw1.out.cell 4
    have hb5 := hSw1.out.cell 5
    have hb6 := hSw1.out.cell 6
    have hbl := hSw1.out.lt
    simp only [List.getElem?_toArray, List.getElem?_cons_zero, List.getElem?_cons_succ] at hb0 hb1 hb2 hb3 hb4 hb5 hb6
    go_simp
    try (with_reducible rfl)
  try simp only [Act.put, List.setIfInBounds_toArray, List.set_cons_zero, List.set_cons_succ, List.getElem_toArray, List.getElem_cons_zero, List.getElem_cons_succ]
  refine wpAnyH_take (i := 10) (v := ?_) rfl (by kernel_rfl) (by kernel_rfl) (by kernel_rfl) (fun _ _ _ h => h) (Or.inl ⟨by rfl, ?_⟩) hHeld ?_
  rotate_left
  · intro w hSw
    have hSw1 := hSw
    clear hSw
    try dsimp only at hSw1
    go_simp
    try (with_reducible rfl)
  try simp only [Act.put, List.setIfInBounds_toArray, List.set_cons_zero, List.set_cons_succ, List.getElem_toArray, List.getElem_cons_zero, List.getElem_cons_succ]
  refine wpAnyH_take (i := 11) (v := ?_) rfl (by kernel_rfl) (by kernel_rfl) (by kernel_rfl) (fun _ _ _ h => h) (Or.inl ⟨by rfl, ?_⟩) hHeld ?_
  rotate_left
  · intro w hSw
    have hSw1 := hSw
    clear hSw
    have hb0 := hSw1.out.cell 0
    have hb1 := hSw1.out.cell 1
    have hb2 := hSw1.out.cell 2
    have hb3 := hSw1.out.cell 3
    have hb4 := hSw1.out.cell 4
    have hb5 := hSw1.out.cell 5
    have hb6 := hSw1.out.cell 6
    have hbl := hSw1.out.lt
    simp only [List.getElem?_toArray, List.getElem?_cons_zero, List.getElem?_cons_succ] at hb0 hb1 hb2 hb3 hb4 hb5 hb6
    go_simp
    try (with_reducible rfl)
  try simp only [Act.put, List.setIfInBounds_toArray, List.set_cons_zero, List.set_cons_succ, List.getElem_toArray, List.getElem_cons_zero, List.getElem_cons_succ]
  refine wpAnyH_take (i := 12) (v := ?_) rfl (by kernel_rfl) (by kernel_rfl) (by kernel_rfl) (fun _ _ _ h => h) (Or.inl ⟨by rfl, ?_⟩) hHeld ?_
  rotate_left
  · intro w hSw
    have hSw1 := hSw
    clear hSw
    try dsimp only at hSw1
    go_simp
    try (with_reducible rfl)
  try simp only [Act.put, List.setIfInBounds_toArray, List.set_cons_zero, List.set_cons_succ, List.getElem_toArray, List.getElem_cons_zero, List.getElem_cons_succ]
  refine wpAnyH_take (i := 13) (v := ?_) rfl (by kernel_rfl) (by kernel_rfl) (by kernel_rfl) (fun _ _ _ h => h) (Or.inl ⟨by rfl, ?_⟩) hHeld ?_
  rotate_left
  · intro w hSw
    have hSw1 := hSw
    clear hSw
    have hb0 := hSw1.out.cell 0
    have hb1 := hSw1.out.cell 1
    have hb2 := hSw1.out.cell 2
    have hb3 := hSw1.out.cell 3
    have hb4 := hSw1.out.cell 4
    have hb5 := hSw1.out.cell 5
    have hb6 := hSw1.out.cell 6
    have hbl := hSw1.out.lt
    simp only [List.getElem?_toArray, List.getElem?_cons_zero, List.getElem?_cons_succ] at hb0 hb1 hb2 hb3 hb4 hb5 hb6
    go_simp
    try (with_reducible rfl)
  try simp only [Act.put, List.setIfInBounds_toArray, List.set_cons_zero, List.set_cons_succ, List.getElem_toArray, List.getElem_cons_zero, List.getElem_cons_succ]
  refine wpAnyH_ready (rs := [14]) (by kernel_rfl) (by simp) ?_
  refine AllReadyH.cons rfl (fun K hK => ?_) AllReadyH.nil
  go_simp
  refine (cloneE_any x.es a cap V.drew H1.out.2.2.1.drew hl).mono ?_; rintro e V2 ⟨a2, cap2, rfl, r2, k2⟩; have HNB : Hid (∀ g, g ∈ blks a2 → g ∉ [b + 1]) := (by intro g hg e; simp at e; subst e; exact absurd hg (k2.notin H1.out.2.1.drew.lt (by simp))); replace k2 : Step [] [] V.drew V2 := k2.drop (by simp); have H2 : Hid (Rd V2 3 a2 x.es.length (entcs x.es) ∧ Blk V2 (b + 1) 24 #[.int .i64 0, .int .i64 0, .int .i64 0, .int .i64 0, .int .i64 0, .int .i64 0, .int .i64 0, .bool false, .slice none 0 0, Str []] ∧ Step [] [] w V2) := ⟨r2, H1.out.2.1.drew.step k2 (by simp), H1.out.2.2.2.1.drew.trans k2⟩; have KP := Lib.hid (hHeld.out.step k2 (by simp)); clear r2 k2; have z1 := H2.out.2.1.lt; have zc := fun j => H2.out.2.1.cell j; have zf := fun j => H2.out.2.1.frozen j; have zc0 := zc 0; have zf0 := zf 0; have zc1 := zc 1; have zf1 := zf 1; have zc2 := zc 2; have zf2 := zf 2; have zc3 := zc 3; have zf3 := zf 3; have zc4 := zc 4; have zf4 := zf 4; have zc5 := zc 5; have zf5 := zf 5; have zc6 := zc 6; have zf6 := zf 6; have zc7 := zc 7; have zf7 := zf 7; have zc8 := zc 8; have zf8 := zf 8; have zc9 := zc 9; have zf9 := zf 9; clear zc zf; simp only [List.getElem?_toArray, List.getElem?_cons_zero, List.getElem?_cons_succ] at zc0 zc1 zc2 zc3 zc4 zc5 zc6 zc7 zc8 zc9
  go_wp2_with fail
  refine hK.out _ _ (KP) (fun hHeld2 => ?_)
  clear hK K hHeld
  try simp only [Act.put, List.setIfInBounds_toArray, List.set_cons_zero, List.set_cons_succ, List.getElem_toArray, List.getElem_cons_zero, List.getElem_cons_succ]
  refine wpAnyH_take (i := 15) (v := ?_) rfl (by kernel_rfl) (by kernel_rfl) (by kernel_rfl) (fun _ _ _ h => h) (Or.inl ⟨by rfl, ?_⟩) hHeld2 ?_
  rotate_left
  · intro w hSw
    have hSw1 := hSw
    clear hSw
    try dsimp only at hSw1
    go_simp
    try (with_reducible rfl)
  try simp only [Act.put, List.setIfInBounds_toArray, List.set_cons_zero, List.set_cons_succ, List.getElem_toArray, List.getElem_cons_zero, List.getElem_cons_succ]
  refine wpAnyH_ready (rs := [16]) (by kernel_rfl) (by simp) ?_
  refine AllReadyH.cons rfl (fun K hK => ?_) AllReadyH.nil
  go_simp
  skip
  go_wp2_with fail
  refine hK.out _ _ (Lib.hid ((((((((((hHeld2.out.far (by simp) _).far (by simp) _).far (by simp) _).far (by simp) _).far (by simp) _).far (by simp) _).far (by simp) _).far (by simp) _).far (by simp) _).far (by simp) _)) (fun hHeld3 => ?_)
  clear hK K hHeld2
  try simp only [Act.put, List.setIfInBounds_toArray, List.set_cons_zero, List.set_cons_succ, List.getElem_toArray, List.getElem_cons_zero, List.getElem_cons_succ]
  refine wpAnyH_done (by kernel_rfl) ?_ _
  go_wp2_with fail
  change bodyPost _ _ _ _ _ (putRw V2 (b + 1) ⟨3, x.src, x.term, x.index, x.last, x.commit, x.round, false, x.es, []⟩ (.slice a2 x.es.length cap2))
  have P := (H2.out.2.1.putRw ⟨3, x.src, x.term, x.index, x.last, x.commit, x.round, false, x.es, []⟩ (.slice a2 x.es.length cap2)).rw
  have ss := step_putRw V2 (b + 1) ⟨3, x.src, x.term, x.index, x.last, x.commit, x.round, false, x.es, []⟩ (.slice a2 x.es.length cap2)
  obtain ⟨U, hU⟩ : ∃ U, U = putRw V2 (b + 1) ⟨3, x.src, x.term, x.index, x.last, x.commit, x.round, false, x.es, []⟩ (.slice a2 x.es.length cap2) := ⟨_, rfl⟩
  rw [← hU] at P ss ⊢
  clear hU
  refine bodyPost_ret (v := rwV ⟨3, x.src, x.term, x.index, x.last, x.commit, x.round, false, x.es, []⟩ (.slice a2 x.es.length cap2)) ?_ rfl ?_
  · simp [results, Try.results21, go_sem, P]
  · rw [HC.out]
    have hbw := H1.out.2.2.2.2
    have hnb : ∀ g, g ∈ blks a2 → g ∉ [b + 1] := HNB.out
    exact ⟨a2, cap2, rfl, H2.out.1.step ss hnb, (H2.out.2.2.out1 ss (by omega))⟩
end Go.Proofs.Ytihklmomipidaaa
