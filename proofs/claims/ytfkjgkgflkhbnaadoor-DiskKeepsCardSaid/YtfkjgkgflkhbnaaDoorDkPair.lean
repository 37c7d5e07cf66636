/-
  Chapter 6: the two disks side by side; what every operation keeps. No condition: plain lemmas.
-/
import Derived.Test.YtfkjgkgflkhbnaaDoorDkLaw
namespace Go.Proofs.YtfkjgkgflkhbnaaDoor
open Go.RowKit Go.Maps
set_option linter.unusedSimpArgs false
set_option linter.unusedVariables false
set_option maxRecDepth 100000

/-- A disk of at most k files, whose names are short. -/
structure Ok6 (s : St) (k : Nat) : Prop where
  b : StB s
  len : s.E.length ≤ k
  nm : ∀ f ∈ s.E, f.n.length ≤ 1099511627776
theorem used_map_le (E : List En) (g : En → En) (h : ∀ f ∈ E, (g f).d.length + (g f).l.length ≤ f.d.length + f.l.length) : usedE (E.map g) ≤ usedE E := by
  induction E with
  | nil => simp [usedE]
  | cons x r ih =>
    rw [List.map_cons, used_cons, used_cons]
    have h1 := h x (by simp)
    have h2 := ih fun f hf => h f (by simp [hf])
    omega
theorem used_emod (E : List En) (n : List UInt8) (g : En → En) (h : ∀ f, (g f).d.length + (g f).l.length ≤ f.d.length + f.l.length) : usedE (emod E n g) ≤ usedE E := by
  unfold emod
  exact used_map_le E _ fun f _ => by split; exact h f; exact Nat.le_refl _
theorem used_edel (E : List En) (n : List UInt8) : usedE (edel E n) ≤ usedE E := by
  unfold edel
  induction E with
  | nil => simp [usedE]
  | cons x r ih =>
    rw [List.filter_cons]
    split
    · rw [used_cons, used_cons]; omega
    · rw [used_cons]; omega
theorem crashF_le (keep : List Int) (i : Nat) (f : En) : (crashF keep i f).d.length + (crashF keep i f).l.length ≤ f.d.length + f.l.length := by
  unfold crashF
  split
  · exact Nat.le_refl _
  · split
    · simp
    · simp [List.length_append, List.length_take]; omega
theorem used_crash (keep : List Int) : ∀ (i : Nat) (E : List En), usedE (crashE keep i E) ≤ usedE E
  | _, [] => by simp [crashE]
  | i, f :: r => by
    simp only [crashE]
    rw [used_cons, used_cons]
    have h1 := crashF_le keep i f
    have h2 := used_crash keep (if f.l = [] then i else i + 1) r
    omega
theorem burn_b {s : St} (h : StB s) : -1 ≤ s.burn.fuse ∧ s.burn.fuse ≤ 9223372036854775807 := h.burn.fuse
theorem nm_emod {E : List En} {n : List UInt8} {g : En → En} (hg : ∀ f, (g f).n = f.n) {M : Nat} (h : ∀ f ∈ E, f.n.length ≤ M) : ∀ f ∈ emod E n g, f.n.length ≤ M := by
  intro f hf
  obtain ⟨y, hy, rfl⟩ := List.mem_map.1 hf
  split
  · rw [hg]; exact h y hy
  · exact h y hy
theorem eins_mem {x f : En} : ∀ {E : List En}, f ∈ eins x E → f = x ∨ f ∈ E
  | [], h => by simp [eins] at h; exact .inl h
  | y :: r, h => by
    unfold eins at h
    split at h
    · simp at h; rcases h with h | h | h <;> simp [h]
    · rcases List.mem_cons.1 h with h | h
      · simp [h]
      · rcases eins_mem h with h | h <;> simp [h]
theorem nm_add {E : List En} {n b : List UInt8} {M : Nat} (hn : n.length ≤ M) (h : ∀ f ∈ E, f.n.length ≤ M) : ∀ f ∈ addE E n b, f.n.length ≤ M := by
  unfold addE
  cases eget E n with
  | none =>
    intro f hf
    rcases eins_mem hf with rfl | hf
    · exact hn
    · exact h f hf
  | some y => exact nm_emod (g := fun f => ⟨f.n, f.d, f.l ++ b⟩) (fun _ => rfl) h
theorem nm_crash {keep : List Int} {i : Nat} {E : List En} {M : Nat} (h : ∀ f ∈ E, f.n.length ≤ M) : ∀ f ∈ crashE keep i E, f.n.length ≤ M := by
  intro f hf
  have hm : f.n ∈ (crashE keep i E).map En.n := List.mem_map.2 ⟨f, hf, rfl⟩
  rw [crashE_names] at hm
  obtain ⟨g, hg, e⟩ := List.mem_map.1 hm
  rw [← e]; exact h g hg
theorem ok_append {s : St} {k : Nat} (h : Ok6 s k) (hr : ERis s.E) (n b : List UInt8) (hn : n.length ≤ 1099511627776) (hk : k < 1099511627776) : Ok6 (appendS s n b).2 (k + 1) := by
  have hb := h.b.burn
  have key : ∀ s', s'.E = s.E → StB s' → Ok6 s' (k + 1) := fun s' e hs => ⟨hs, by rw [e]; have := h.len; omega, by rw [e]; exact h.nm⟩
  unfold appendS
  split
  · exact key s rfl h.b
  · split
    · exact key s rfl h.b
    · split
      · exact key s rfl h.b
      · rename_i hfull
        split
        · exact key s.burn rfl hb
        · have hu := used_add hr n b
          refine ⟨⟨h.b.room, hb.fuse, ?_, ?_⟩, ?_, nm_add hn h.nm⟩
          · show usedE (addE s.E n b) ≤ 8388608
            rw [hu]
            have := h.b.room
            omega
          · exact Nat.le_trans (len_add s.E n b) (by have := h.len; omega)
          · exact Nat.le_trans (len_add s.E n b) (by have := h.len; omega)
theorem ok_file {s : St} {k : Nat} (h : Ok6 s k) (n : List UInt8) (g : En → List En) (hu : ∀ f, usedE (g f) ≤ usedE s.E) (hl : ∀ f, (g f).length ≤ s.E.length) (hm : ∀ f, ∀ x ∈ g f, x.n.length ≤ 1099511627776) : Ok6 (onFile s n g).2 k := by
  have hb := h.b.burn
  unfold onFile
  split
  · exact h
  · split
    · exact h
    · rename_i f _
      split
      · exact ⟨hb, h.len, h.nm⟩
      · exact ⟨⟨h.b.room, hb.fuse, Nat.le_trans (hu f) h.b.used, Nat.le_trans (hl f) h.b.len⟩, Nat.le_trans (hl f) h.len, hm f⟩
theorem ok_sync {s : St} {k : Nat} (h : Ok6 s k) (n : List UInt8) : Ok6 (syncS s n).2 k :=
  ok_file h n _ (fun _ => used_emod _ _ _ fun f => by simp) (fun _ => by simp [emod]) (fun _ => nm_emod (g := fun f => ⟨f.n, f.d ++ f.l, []⟩) (fun _ => rfl) h.nm)
theorem ok_remove {s : St} {k : Nat} (h : Ok6 s k) (n : List UInt8) : Ok6 (removeS s n).2 k :=
  ok_file h n _ (fun _ => used_edel _ _) (fun _ => List.length_filter_le _ _) (fun _ x hx => h.nm x (List.mem_filter.1 hx).1)
theorem cutF_le (k : Nat) (f : En) : (cutF k f).d.length + (cutF k f).l.length ≤ f.d.length + f.l.length := by
  unfold cutF
  split
  · simp [List.length_take]; omega
  · simp [List.length_take]; omega
theorem cutF_n (k : Nat) (f : En) : (cutF k f).n = f.n := by unfold cutF; split <;> rfl
theorem ok_cut {s : St} {k : Nat} (h : Ok6 s k) (n : List UInt8) (m : Int) : Ok6 (cutS s n m).2 k := by
  have hb := h.b.burn
  unfold cutS
  split
  · exact h
  · split
    · exact h
    · split
      · exact h
      · split
        · exact ⟨hb, h.len, h.nm⟩
        · exact ⟨⟨h.b.room, hb.fuse, Nat.le_trans (used_emod _ _ _ fun f => cutF_le _ f) h.b.used, by simp [emod]; exact h.b.len⟩, by simp [emod]; exact h.len, nm_emod (fun f => cutF_n _ f) h.nm⟩
theorem ok_crash {s : St} {k : Nat} (h : Ok6 s k) (keep : List Int) : Ok6 (crashS s keep) k :=
  ⟨⟨h.b.room, (by show -1 ≤ (-1 : Int) ∧ (-1 : Int) ≤ 9223372036854775807; omega), Nat.le_trans (used_crash keep 0 s.E) h.b.used, by show (crashE keep 0 s.E).length ≤ _; rw [crashE_len]; exact h.b.len⟩, by show (crashE keep 0 s.E).length ≤ _; rw [crashE_len]; exact h.len, nm_crash h.nm⟩
theorem ok_fuse {s : St} {k : Nat} (h : Ok6 s k) (n : Int) (hn : n < 9223372036854775808) : Ok6 (fuseS s n) k :=
  ⟨⟨h.b.room, (by show -1 ≤ max n (-1) ∧ max n (-1) ≤ 9223372036854775807; omega), h.b.used, h.b.len⟩, h.len, h.nm⟩
theorem ok_room {s : St} {k : Nat} (h : Ok6 s k) (n : Int) : Ok6 (roomS s n).2 k := by
  unfold roomS
  split
  · rename_i hk
    simp only [okRoom, Bool.and_eq_true, decide_eq_true_eq] at hk
    exact ⟨⟨hk, h.b.fuse, h.b.used, h.b.len⟩, h.len, h.nm⟩
  · exact h
theorem ok_more {s : St} {k : Nat} (h : Ok6 s k) : Ok6 s (k + 1) := ⟨h.b, Nat.le_succ_of_le h.len, h.nm⟩
theorem ok_new {room : Int} (h : okRoom room = true) : Ok6 (newS room) 0 := by
  simp only [okRoom, Bool.and_eq_true, decide_eq_true_eq] at h
  exact ⟨⟨h, (by show -1 ≤ (-1 : Int) ∧ (-1 : Int) ≤ 9223372036854775807; omega), (by show 0 ≤ 8388608; omega), Nat.zero_le _⟩, Nat.zero_le _, by intro f hf; simp [newS] at hf⟩

/-- The two disks, apart from one another; nothing but them has turned since w0. -/
structure Pd (w0 W : World) (S S2 : List Nat) (d rd : Nat) (s s2 : St) : Prop where
  dk : Dk W S d s
  rf : Rf W S2 rd s2
  dis : ∀ x ∈ S, x ∉ S2
  st : Step [] (S ++ S2) w0 W
section
variable {w0 W W1 : World} {S S' S2 : List Nat} {d rd : Nat} {s s' s2 : St}
theorem Pd.prog (h : Pd w0 W S S2 d rd s s2) (hD : Dk W1 S' d s') (k : Step S S' W W1) : Pd w0 W1 S' S2 d rd s' s2 := by
  refine ⟨hD, h.rf.step k (fun x hx hm => h.dis x hm hx), fun x hx hm => ?_, h.st.trans (k.wide (T := S ++ S2) (by intro j hj; simp [hj]) (by intro j hj; rcases List.mem_append.1 hj with hj | hj; exact .inr (.inl hj); exact .inl (by simp [hj])))⟩
  rcases k.fresh x hx with h1 | h1
  · exact h.dis x h1 hm
  · have := h.rf.lt x hm; omega
theorem Pd.ref (h : Pd w0 W S S2 d rd s s2) {S2' : List Nat} {s2' : St} (hR : Rf W1 S2' rd s2') (k : Step S2 S2' W W1) : Pd w0 W1 S S2' d rd s s2' := by
  refine ⟨h.dk.step k (fun x hx hm => h.dis x hx hm), hR, fun x hx hm => ?_, h.st.trans (k.wide (T := S ++ S2) (by intro j hj; simp [hj]) (by intro j hj; rcases List.mem_append.1 hj with hj | hj; exact .inl (by simp [hj]); exact .inr (.inl hj)))⟩
  rcases k.fresh x hm with h1 | h1
  · exact h.dis x hx h1
  · have := h.dk.lt x hx; omega
theorem Pd.keep (h : Pd w0 W S S2 d rd s s2) {T : List Nat} (k : Step [] T W W1) : Pd w0 W1 S S2 d rd s s2 :=
  ⟨h.dk.keep k, h.rf.keep k, h.dis, h.st.trans ((k.drop (S'' := []) (by simp)).keep _)⟩
theorem Pd.low (h : Pd w0 W S S2 d rd s s2) {g : Nat} (hg : g < w0.heap.size) : g ∉ S ∧ g ∉ S2 := by
  constructor <;> intro hm
  · rcases h.st.fresh g (by simp [hm]) with h1 | h1
    · simp at h1
    · omega
  · rcases h.st.fresh g (by simp [hm]) with h1 | h1
    · simp at h1
    · omega
/-- What lies among the blocks of w0 is as it was. -/
theorem Pd.rdK (h : Pd w0 W S S2 d rd s s2) {sz n : Nat} {a : Option Addr} {xs : List Value} (hr : Rd w0 sz a n xs) : Rd W sz a n xs := hr.step0 h.st
theorem rd_low {w : World} {n : Nat} {a : Option Addr} {xs : List Value} (hr : Rd w 1 a n xs) (hn : 0 < n) : ∀ g, g ∈ blks a → g < w.heap.size := by
  intro g hg
  obtain ⟨g', off, rfl⟩ := hr.some_ hn
  simp [blks] at hg
  subst hg
  have hx : 0 < xs.length := by rw [hr.len]; omega
  obtain ⟨u, hu⟩ : ∃ u, xs[0]? = some u := ⟨_, List.getElem?_eq_getElem hx⟩
  have := World.block_lt_of_cell? _ _ (hr.cell g off none rfl 0 u hu)
  simpa using this
end
/-- What an event makes of a disk. -/
def stepS (s : St) (o : OpE) : St :=
  if o.k = 0 then (appendS s o.n o.s).2 else if o.k = 1 then (syncS s o.n).2 else if o.k = 2 then (cutS s o.n o.m).2 else if o.k = 3 then (removeS s o.n).2 else if o.k = 4 then s else if o.k = 5 then fuseS s o.m else if o.k = 6 then (roomS s o.m).2 else if o.k = 7 then crashS s o.ks else s
theorem ok_step {s : St} {k : Nat} (h : Ok6 s k) (hr : ERis s.E) (o : OpE) (hn : o.n.length ≤ 1099511627776) (hm : o.m < 9223372036854775808) (hk : k < 1099511627776) : Ok6 (stepS s o) (k + 1) := by
  unfold stepS
  repeat' split
  · exact ok_append h hr _ _ hn hk
  · exact ok_more (ok_sync h _)
  · exact ok_more (ok_cut h _ _)
  · exact ok_more (ok_remove h _)
  · exact ok_more h
  · exact ok_more (ok_fuse h _ hm)
  · exact ok_more (ok_room h _)
  · exact ok_more (ok_crash h _)
  · exact ok_more h
end Go.Proofs.YtfkjgkgflkhbnaaDoor
