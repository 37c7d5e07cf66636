/-
  The reference's disk in memory: its struct, its list of files; New, Used, at, burns, Read. Conditions: the bounds of StB.
-/
import Derived.Test.YtnkbphecabnnaaaGreatDoorZGA
import Derived.Test.YtnkbphecabnnaaaGreatDoorZGM
import Derived.Test.YtnkbphecabnnaaaGreatDoorZGK
import Derived.Test.YtnkbphecabnnaaaGreatDoorZGO
namespace Go.Proofs.YtnkbphecabnnaaaGreatDoor
open Go.RowKit Go.Maps
set_option linter.unusedSimpArgs false
set_option linter.unusedVariables false
set_option maxRecDepth 100000


def enV (f : En) : List Value := [Str f.n, Str f.d, Str f.l]
def enVs (E : List En) : List Value := E.flatMap enV
theorem enVs_app (E F : List En) : enVs (E ++ F) = enVs E ++ enVs F := by simp [enVs]
abbrev rdc (v : Value) (room fuse : Int) (off : Bool) : Array Value := #[v, .int .i64 room, .int .i64 fuse, .bool off]
section
variable {w w' : World} {S S' S'' : List Nat} {d cap : Nat} {a : Option Addr} {s : St}
end
end Go.Proofs.YtnkbphecabnnaaaGreatDoor
namespace Go.Proofs.YtnkbphecabnnaaaGreatDoor
open Go.RowKit Go.Maps
set_option linter.unusedSimpArgs false
set_option linter.unusedVariables false
set_option maxRecDepth 100000


theorem en_late (A B : List En) (f : En) (l' : List UInt8) : (enVs (A ++ f :: B)).set (A.length * 3 + 2) (Str l') = enVs (A ++ ⟨f.n, f.d, l'⟩ :: B) := by
  have h : ∀ A : List En, ∀ B f l', (enVs (A ++ f :: B)).set (A.length * 3 + 2) (Str l') = enVs (A ++ ⟨f.n, f.d, l'⟩ :: B) := by
    intro A
    induction A with
    | nil => intro B f l'; rfl
    | cons x r ih =>
      intro B f l'
      show (Str x.n :: Str x.d :: Str x.l :: enVs (r ++ f :: B)).set ((r.length + 1) * 3 + 2) (Str l') = Str x.n :: Str x.d :: Str x.l :: enVs (r ++ ⟨f.n, f.d, l'⟩ :: B)
      rw [← ih B f l', show (r.length + 1) * 3 + 2 = r.length * 3 + 2 + 1 + 1 + 1 by omega]
      rfl
  exact h A B f l'
end Go.Proofs.YtnkbphecabnnaaaGreatDoor
namespace Go.Proofs.YtnkbphecabnnaaaGreatDoor
open Go.RowKit Go.Maps
set_option linter.unusedSimpArgs false
set_option linter.unusedVariables false
set_option maxRecDepth 100000


theorem StB.burn {s : St} (h : StB s) : StB s.burn := by
  refine ⟨h.room, ?_, h.used, h.len⟩
  have := h.fuse
  show -1 ≤ (if 0 < s.fuse then s.fuse - 1 else s.fuse) ∧ (if 0 < s.fuse then s.fuse - 1 else s.fuse) ≤ 9223372036854775807
  split <;> omega
def ApR (w2 : World) (E : List En) (x : List UInt8) (k : Nat) (oa : Option Addr) (oc : Nat) (W : World) : Prop := Row W 3 oa k oc (enVs (E.take k)) ∧ Step [] (blks oa) w2 W ∧ ∀ f ∈ E.take k, bytesBefore f.n x = true
theorem ApR.next {w2 W w9 : World} {E : List En} {x : List UInt8} {k oc c9 : Nat} {oa a9 : Option Addr} {y : En} (h : ApR w2 E x k oa oc W) (hy : E[k]? = some y) (hb : bytesBefore y.n x = true) (o : Obj)
    (hr : Row w9 3 a9 (k + 1) c9 (enVs (E.take k) ++ enVs [y])) (st : Step (blks oa) (blks a9) (W.alloc o) w9) : ApR w2 E x (k + 1) a9 c9 w9 := by
  have hk := (List.getElem?_eq_some_iff.1 hy).1
  have hg := (List.getElem?_eq_some_iff.1 hy).2
  refine ⟨?_, (h.2.1.alloc o).trans st, fun f hf => ?_⟩
  · rw [List.take_succ_eq_append_getElem hk, hg, enVs_app]
    exact hr
  · rw [List.take_succ_eq_append_getElem hk, hg] at hf
    rcases List.mem_append.1 hf with hf | hf
    · exact h.2.2 f hf
    · simp at hf; subst hf; exact hb

end Go.Proofs.YtnkbphecabnnaaaGreatDoor
namespace Go.Proofs.YtnkbphecabnnaaaGreatDoor
open Go.RowKit Go.Maps
set_option linter.unusedSimpArgs false
set_option linter.unusedVariables false
set_option maxRecDepth 100000


theorem crashE_take {keep : List Int} {E : List En} {k : Nat} {y : En} (h : E[k]? = some y) : crashE keep 0 (E.take (k + 1)) = crashE keep 0 (E.take k) ++ [crashF keep (cntL (E.take k)) y] := by
  have hk := (List.getElem?_eq_some_iff.1 h).1
  have hx := (List.getElem?_eq_some_iff.1 h).2
  rw [List.take_succ_eq_append_getElem hk, hx, crashE_app]
  simp [crashE]
def RcR (keep : List Int) (E : List En) (w : World) (k : Nat) (oa : Option Addr) (oc : Nat) (W : World) : Prop := Row W 3 oa k oc (enVs (crashE keep 0 (E.take k))) ∧ Step [] (blks oa) w W
theorem RcR.next {keep : List Int} {w W V w9 : World} {E : List En} {k oc c9 : Nat} {oa a9 : Option Addr} {y z : En} (h : RcR keep E w k oa oc W) (hy : E[k]? = some y) (hz : crashF keep (cntL (E.take k)) y = z) (sv : Step [] [] W V)
    (hr : Row w9 3 a9 (k + 1) c9 (enVs (crashE keep 0 (E.take k)) ++ enVs [z])) (st : Step (blks oa) (blks a9) V w9) : RcR keep E w (k + 1) a9 c9 w9 := by
  refine ⟨?_, (h.2.trans (sv.keep (blks oa))).trans st⟩
  rw [crashE_take hy, hz, enVs_app]
  exact hr
@[go_sem high] theorem run_cat_none {P : Program} (x : List UInt8) (h : x.length ≤ 9223372036854775807) (w : World) : (Op.stringOp .add ⟨x.toArray⟩ ByteArray.empty).run P w = .ok (.string ⟨x.toArray⟩) w := by
  have := run_cat (P := P) x [] (by simpa using h) w
  rw [List.append_nil] at this
  exact this
end Go.Proofs.YtnkbphecabnnaaaGreatDoor
namespace Go.Proofs.YtnkbphecabnnaaaGreatDoor
open Go.RowKit Go.Maps
set_option linter.unusedSimpArgs false
set_option linter.unusedVariables false
set_option maxRecDepth 100000

/-- A disk of at most k files, whose names are short. -/
structure Ok6 (s : St) (k : Nat) : Prop where
 b : StB s
 len : s.E.length ≤ k
 nm : ∀ f ∈ s.E, f.n.length ≤ 1099511627776
theorem used_map_le (E : List En) (g : En → En) (h : ∀ f ∈ E, (g f).d.length + (g f).l.length ≤ f.d.length + f.l.length) : usedE (E.map g) ≤ usedE E := by
 induction E with
 | nil => simp [usedE]
 | cons x r ih =>
  rw [List.map_cons, used_cons, used_cons]
  have h1 := h x (by simp)
  have h2 := ih fun f hf => h f (by simp [hf])
  omega
theorem used_emod (E : List En) (n : List UInt8) (g : En → En) (h : ∀ f, (g f).d.length + (g f).l.length ≤ f.d.length + f.l.length) : usedE (emod E n g) ≤ usedE E := by
 unfold emod
 exact used_map_le E _ fun f _ => by split; exact h f; exact Nat.le_refl _
theorem used_edel (E : List En) (n : List UInt8) : usedE (edel E n) ≤ usedE E := by
 unfold edel
 induction E with
 | nil => simp [usedE]
 | cons x r ih =>
  rw [List.filter_cons]
  split
  ·rw [used_cons, used_cons]; omega
  ·rw [used_cons]; omega
theorem crashF_le (keep : List Int) (i : Nat) (f : En) : (crashF keep i f).d.length + (crashF keep i f).l.length ≤ f.d.length + f.l.length := by
 unfold crashF
 split
 ·exact Nat.le_refl _
 ·split
  ·simp
  ·simp [List.length_append, List.length_take]; omega
theorem used_crash (keep : List Int) : ∀ (i : Nat) (E : List En), usedE (crashE keep i E) ≤ usedE E
 | _, [] => by simp [crashE]
 | i, f :: r => by
  simp only [crashE]
  rw [used_cons, used_cons]
  have h1 := crashF_le keep i f
  have h2 := used_crash keep (if f.l = [] then i else i + 1) r
  omega
theorem nm_emod {E : List En} {n : List UInt8} {g : En → En} (hg : ∀ f, (g f).n = f.n) {M : Nat} (h : ∀ f ∈ E, f.n.length ≤ M) : ∀ f ∈ emod E n g, f.n.length ≤ M := by
 intro f hf
 obtain ⟨y, hy, rfl⟩ := List.mem_map.1 hf
 split
 ·rw [hg]; exact h y hy
 ·exact h y hy
theorem eins_mem {x f : En} : ∀ {E : List En}, f ∈ eins x E → f = x ∨ f ∈ E
 | [], h => by simp [eins] at h; exact .inl h
 | y :: r, h => by
  unfold eins at h
  split at h
  ·simp at h; rcases h with h | h | h <;> simp [h]
  ·rcases List.mem_cons.1 h with h | h
   ·simp [h]
   ·rcases eins_mem h with h | h <;> simp [h]
theorem nm_add {E : List En} {n b : List UInt8} {M : Nat} (hn : n.length ≤ M) (h : ∀ f ∈ E, f.n.length ≤ M) : ∀ f ∈ addE E n b, f.n.length ≤ M := by
 unfold addE
 cases eget E n with
 | none =>
  intro f hf
  rcases eins_mem hf with rfl | hf
  ·exact hn
  ·exact h f hf
 | some y => exact nm_emod (g := fun f => ⟨f.n, f.d, f.l ++ b⟩) (fun _ => rfl) h
theorem nm_crash {keep : List Int} {i : Nat} {E : List En} {M : Nat} (h : ∀ f ∈ E, f.n.length ≤ M) : ∀ f ∈ crashE keep i E, f.n.length ≤ M := by
 intro f hf
 have hm : f.n ∈ (crashE keep i E).map En.n := List.mem_map.2 ⟨f, hf, rfl⟩
 rw [crashE_names] at hm
 obtain ⟨g, hg, e⟩ := List.mem_map.1 hm
 rw [← e]; exact h g hg
theorem ok_append {s : St} {k : Nat} (h : Ok6 s k) (hr : ERis s.E) (n b : List UInt8) (hn : n.length ≤ 1099511627776) (hk : k < 1099511627776) : Ok6 (appendS s n b).2 (k + 1) := by
 have hb := h.b.burn
 have key : ∀ s', s'.E = s.E → StB s' → Ok6 s' (k + 1) := fun s' e hs => ⟨hs, by rw [e]; have := h.len; omega, by rw [e]; exact h.nm⟩
 unfold appendS
 split
 ·exact key s rfl h.b
 ·split
  ·exact key s rfl h.b
  ·split
   ·exact key s rfl h.b
   ·rename_i hfull
    split
    ·exact key s.burn rfl hb
    ·have hu := used_add hr n b
     refine ⟨⟨h.b.room, hb.fuse, ?_, ?_⟩, ?_, nm_add hn h.nm⟩
     ·show usedE (addE s.E n b) ≤ 8388608
      rw [hu]
      have := h.b.room
      omega
     ·exact Nat.le_trans (len_add s.E n b) (by have := h.len; omega)
     ·exact Nat.le_trans (len_add s.E n b) (by have := h.len; omega)
theorem ok_file {s : St} {k : Nat} (h : Ok6 s k) (n : List UInt8) (g : En → List En) (hu : ∀ f, usedE (g f) ≤ usedE s.E) (hl : ∀ f, (g f).length ≤ s.E.length) (hm : ∀ f, ∀ x ∈ g f, x.n.length ≤ 1099511627776) : Ok6 (onFile s n g).2 k := by
 have hb := h.b.burn
 unfold onFile
 split
 ·exact h
 ·split
  ·exact h
  ·rename_i f _
   split
   ·exact ⟨hb, h.len, h.nm⟩
   ·exact ⟨⟨h.b.room, hb.fuse, Nat.le_trans (hu f) h.b.used, Nat.le_trans (hl f) h.b.len⟩, Nat.le_trans (hl f) h.len, hm f⟩
theorem ok_sync {s : St} {k : Nat} (h : Ok6 s k) (n : List UInt8) : Ok6 (syncS s n).2 k :=
 ok_file h n _ (fun _ => used_emod _ _ _ fun f => by simp) (fun _ => by simp [emod]) (fun _ => nm_emod (g := fun f => ⟨f.n, f.d ++ f.l, []⟩) (fun _ => rfl) h.nm)
theorem ok_remove {s : St} {k : Nat} (h : Ok6 s k) (n : List UInt8) : Ok6 (removeS s n).2 k :=
 ok_file h n _ (fun _ => used_edel _ _) (fun _ => List.length_filter_le _ _) (fun _ x hx => h.nm x (List.mem_filter.1 hx).1)
theorem cutF_le (k : Nat) (f : En) : (cutF k f).d.length + (cutF k f).l.length ≤ f.d.length + f.l.length := by
 unfold cutF
 split
 ·simp [List.length_take]; omega
 ·simp [List.length_take]; omega
theorem cutF_n (k : Nat) (f : En) : (cutF k f).n = f.n := by unfold cutF; split <;> rfl
theorem ok_cut {s : St} {k : Nat} (h : Ok6 s k) (n : List UInt8) (m : Int) : Ok6 (cutS s n m).2 k := by
 have hb := h.b.burn
 unfold cutS
 split
 ·exact h
 ·split
  ·exact h
  ·split
   ·exact h
   ·split
    ·exact ⟨hb, h.len, h.nm⟩
    ·exact ⟨⟨h.b.room, hb.fuse, Nat.le_trans (used_emod _ _ _ fun f => cutF_le _ f) h.b.used, by simp [emod]; exact h.b.len⟩, by simp [emod]; exact h.len, nm_emod (fun f => cutF_n _ f) h.nm⟩
theorem ok_crash {s : St} {k : Nat} (h : Ok6 s k) (keep : List Int) : Ok6 (crashS s keep) k :=
 ⟨⟨h.b.room, (by show -1 ≤ (-1 : Int) ∧ (-1 : Int) ≤ 9223372036854775807; omega), Nat.le_trans (used_crash keep 0 s.E) h.b.used, by show (crashE keep 0 s.E).length ≤ _; rw [crashE_len]; exact h.b.len⟩, by show (crashE keep 0 s.E).length ≤ _; rw [crashE_len]; exact h.len, nm_crash h.nm⟩
theorem ok_more {s : St} {k : Nat} (h : Ok6 s k) : Ok6 s (k + 1) := ⟨h.b, Nat.le_succ_of_le h.len, h.nm⟩
theorem ok_new {room : Int} (h : okRoom room = true) : Ok6 (newS room) 0 := by
 simp only [okRoom, Bool.and_eq_true, decide_eq_true_eq] at h
 exact ⟨⟨h, (by show -1 ≤ (-1 : Int) ∧ (-1 : Int) ≤ 9223372036854775807; omega), (by show 0 ≤ 8388608; omega), Nat.zero_le _⟩, Nat.zero_le _, by intro f hf; simp [newS] at hf⟩

section
variable {w0 W W1 : World} {S S' S2 : List Nat} {d rd : Nat} {s s' s2 : St}
end
end Go.Proofs.YtnkbphecabnnaaaGreatDoor
