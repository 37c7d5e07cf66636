/-
 req's writer: acts. Condition: texts of at most 2^49 bytes, at most 2^40 acts.
-/
import Derived.Test.YtjfaplmojpldhaaZReqE
namespace Go.Proofs.Ytjfaplmojpldhaa
open Go.RowKit
set_option linter.unusedSimpArgs false
set_option linter.unusedVariables false
set_option maxRecDepth 100000

def wact (st : WS) (d : Da) : WS :=
 if d.kind = 1 then wnum (wnum (wtext (wtext (wnum st d.kind) d.fr) d.to_) d.rev) d.most
 else if d.kind = 2 then wtext (wtext (wnum st d.kind) d.key) d.val
 else if d.kind = 3 then wtext (wtext (wnum st d.kind) d.fr) d.to_
 else wnum st d.kind
def badA (d : Da) : Bool := !(decide (d.kind = 1) || decide (d.kind = 2) || decide (d.kind = 3))
def wacts (st : WS) (l : List Da) : WS := l.foldl wact (wnum st l.length)
structure DaB (d : Da) : Prop where
 kind : d.kind < 9223372036854775808
 rev : d.rev < 9223372036854775808
 most : d.most < 9223372036854775808
 fr : d.fr.length ≤ 562949953421312
 to_ : d.to_.length ≤ 562949953421312
 key : d.key.length ≤ 562949953421312
 val : d.val.length ≤ 562949953421312
theorem take_foldl {α β : Type} (f : β → α → β) (b : β) (l : List α) (k : Nat) (x : α) (h : l[k]? = some x) : (l.take (k + 1)).foldl f b = f ((l.take k).foldl f b) x := by simp [List.take_add_one, h]
theorem takeQ_any {α : Type} (f : α → Bool) (l : List α) (k : Nat) (x : α) (h : l[k]? = some x) : (l.take (k + 1)).any f = ((l.take k).any f || f x) := by simp [List.take_add_one, h]
set_option maxHeartbeats 8000000 in
theorem acts_any {w0 w : World} {K : List (Nat × TypeId × Array Value)} {p : Nat} {bd : Bool} {st : WS} (h : Ek w0 w K p bd st) (l : List Da) (a : Option Addr) (cap : Nat) (hr : Rd w0 7 a l.length (dacs l)) (hB : ∀ d ∈ l, DaB d) (hl : l.length ≤ 1099511627776) :
  Calls Try.prog 63 #[.pointer (some ⟨p, 0, none⟩), .slice a l.length cap] w (EkPost w0 K p (bd || l.any badA) (wacts st l)) := by
 have H0 := Lib.hid (And.intro h (And.intro hr hB))
 clear h hr hB
 have hlb : (l.length : Int) < 9223372036854775808 := by omega
 go_enter Try.func63, Try.ntmps63
 go_wp2_with fail
 refine (ek_num H0.out.1 l.length hlb).mono ?_
 rintro e w1 ⟨rfl, t1⟩
 have H1 := Lib.hid t1
 clear t1
 go_wp2_with fail
 go_loopw [14] (fun i W => ∃ k : Nat, i = .int .i64 k ∧ k ≤ l.length ∧ Hid (Ek w0 W K p (bd || (l.take k).any badA) ((l.take k).foldl wact (wnum st l.length)))) (fun i _ => l.length - (intOf i).toNat)
 case atStart => exact ⟨0, rfl, by omega, Lib.hid (by simpa using H1.out)⟩
 case round =>
  clear H1
  rename World => W
  obtain ⟨k, rfl, hk, HW⟩ := hrel
  by_cases hlt : k < l.length
  ·have hlt' : (k : Int) < l.length := by omega
   obtain ⟨d, hd⟩ : ∃ d, l[k]? = some d := ⟨_, List.getElem?_eq_getElem hlt⟩
   have hrd := H0.out.2.1.step0 HW.out.out
   obtain ⟨g, off, hsa⟩ := hrd.some_ (by omega)
   subst hsa
   have cd := rd_da hrd hd
   have gl : g < W.heap.size := by have := World.block_lt_of_cell? _ _ cd.1; simpa using this
   have HDB := Lib.hid (H0.out.2.2 d (List.mem_of_getElem? hd))
   have HTF := Lib.hid (And.intro (take_foldl wact (wnum st l.length) l k d hd) (takeQ_any badA l k d hd))
   clear hd hrd
   obtain ⟨B, hBd⟩ : ∃ B, B = (bd || (l.take k).any badA) := ⟨_, rfl⟩
   obtain ⟨q, hq⟩ : ∃ q, q = (l.take k).foldl wact (wnum st l.length) := ⟨_, rfl⟩
   have HEND : Hid (∀ W9 b9 q9, Ek w0 W9 K p b9 q9 → b9 = (B || badA d) → q9 = wact q d → Ek w0 W9 K p (bd || (l.take (k + 1)).any badA) ((l.take (k + 1)).foldl wact (wnum st l.length))) := by
    intro W9 b9 q9 h1 h2 h3
    rw [HTF.out.1, HTF.out.2, ← hq, ← Bool.or_assoc, ← hBd, ← h2, ← h3]
    exact h1
   rw [← hBd, ← hq] at HW
   clear hBd hq
   go_upto_region 4 with fail
   obtain ⟨eb, heb⟩ : ∃ eb, eb = W.heap.size := ⟨_, rfl⟩
   obtain ⟨W1, hW1⟩ : ∃ W1, W1 = W.alloc (.cells (dac d).toArray 108) := ⟨_, rfl⟩
   have G0 : Hid (Ek w0 W1.drew ((eb, 108, (dac d).toArray) :: K) p B q) := Lib.hid (by rw [hW1, heb]; exact (HW.out.push 108 (dac d).toArray).quiet ((Step.refl [] _).drew))
   rw [show W.alloc (.cells #[.int .i64 d.kind, .string ⟨d.fr.toArray⟩, .string ⟨d.to_.toArray⟩, .string ⟨d.key.toArray⟩, .string ⟨d.val.toArray⟩, .int .i64 d.rev, .int .i64 d.most] 108) = W1 from hW1.symm, ← heb]
   clear hW1 heb cd gl HW
   refine wp_region_held_drew (S := fun V => Hid (Blk V eb 108 (dac d).toArray)) (by kernel_rfl) (Lib.hid (G0.out.blk (List.mem_cons_self ..))) (fun hHeld => ?_)
   refine wpAnyH_take (i := 0) (v := ?_) rfl (by kernel_rfl) (by kernel_rfl) (by kernel_rfl) (fun _ _ _ h => h) (Or.inl ⟨by rfl, ?_⟩) hHeld ?_
   rotate_left
   ·intro w hSw1
    try dsimp only at hSw1
    go_simp
    try (with_reducible rfl)
   try simp only [Act.put, LsA, LsB, LsC, LsD, LsE, LsF]
   refine wpAnyH_take (i := 1) (v := ?_) rfl (by kernel_rfl) (by kernel_rfl) (by kernel_rfl) (fun _ _ _ h => h) (Or.inl ⟨by rfl, ?_⟩) hHeld ?_
   rotate_left
   ·intro w hSw1
    try dsimp only at hSw1
    go_simp
    try (with_reducible rfl)
   try simp only [Act.put, LsA, LsB, LsC, LsD, LsE, LsF]
   refine wpAnyH_take (i := 2) (v := ?_) rfl (by kernel_rfl) (by kernel_rfl) (by kernel_rfl) (fun _ _ _ h => h) (Or.inl ⟨by rfl, ?_⟩) hHeld ?_
   rotate_left
   ·intro w hSw1
    try dsimp only at hSw1
    go_simp
    try (with_reducible rfl)
   try simp only [Act.put, LsA, LsB, LsC, LsD, LsE, LsF]
   refine wpAnyH_take (i := 3) (v := ?_) rfl (by kernel_rfl) (by kernel_rfl) (by kernel_rfl) (fun _ _ _ h => h) (Or.inl ⟨by rfl, ?_⟩) hHeld ?_
   rotate_left
   ·intro w hSw1
    try dsimp only at hSw1
    go_simp
    try (with_reducible rfl)
   try simp only [Act.put, LsA, LsB, LsC, LsD, LsE, LsF]
   refine wpAnyH_take (i := 4) (v := ?_) rfl (by kernel_rfl) (by kernel_rfl) (by kernel_rfl) (fun _ _ _ h => h) (Or.inl ⟨by rfl, ?_⟩) hHeld ?_
   rotate_left
   ·intro w hSw1
    have tc := hSw1.out.cell 0
    simp only [dac, List.getElem?_toArray, List.getElem?_cons_zero] at tc
    have tl := hSw1.out.lt
    go_simp
    try (with_reducible rfl)
   try simp only [Act.put, LsA, LsB, LsC, LsD, LsE, LsF]
   refine wpAnyH_ready (rs := [5]) (by kernel_rfl) (by simp) ?_
   refine AllReadyH.cons rfl (fun K hK => ?_) AllReadyH.nil
   go_simp
   refine (ek_num G0.out d.kind HDB.out.kind).mono ?_; rintro e X1 ⟨rfl, t1⟩; have G1 := Lib.hid t1; clear t1
   go_wp2_with fail
   refine hK.out _ _ (Lib.hid (G1.out.blk (List.mem_cons_self ..))) (fun hHeld2 => ?_)
   clear hK K hHeld
   try simp only [Act.put, LsA, LsB, LsC, LsD, LsE, LsF]
   refine wpAnyH_done (by kernel_rfl) ?_ _
   by_cases hk1 : d.kind = 1
   ·have k1 : (d.kind == 1) = true := by simp [hk1]
    have k2 : (d.kind == 2) = false := by simp [hk1]
    have k3 : (d.kind == 3) = false := by simp [hk1]
    have HKD := Lib.hid hk1
    clear hk1
    have vc := (G1.out.blk (List.mem_cons_self ..)).cell
    have v0 := vc 0
    have v1 := vc 1
    have v2 := vc 2
    have v3 := vc 3
    have v4 := vc 4
    have v5 := vc 5
    have v6 := vc 6
    clear vc
    simp only [dac, List.getElem?_toArray, List.getElem?_cons_zero, List.getElem?_cons_succ] at v0 v1 v2 v3 v4 v5 v6
    have vl := (G1.out.blk (List.mem_cons_self ..)).lt
    go_wp2_with fail
    refine (ek_texts G1.out [d.fr, d.to_] (by intro n hn; simp at hn; rcases hn with rfl | rfl; exact HDB.out.fr; exact HDB.out.to_) (by simp)).mono ?_
    rintro e X2 ⟨rfl, t2⟩
    have G2 := Lib.hid t2
    clear t2 v0 v1 v2 v3 v4 v5 v6 vl
    have vc := (G2.out.blk (List.mem_cons_self ..)).cell
    have v0 := vc 0
    have v1 := vc 1
    have v2 := vc 2
    have v3 := vc 3
    have v4 := vc 4
    have v5 := vc 5
    have v6 := vc 6
    clear vc
    simp only [dac, List.getElem?_toArray, List.getElem?_cons_zero, List.getElem?_cons_succ] at v0 v1 v2 v3 v4 v5 v6
    have vl := (G2.out.blk (List.mem_cons_self ..)).lt
    go_wp2_with fail
    refine (ek_nums G2.out [d.rev, d.most] (by intro n hn; simp at hn; rcases hn with rfl | rfl; exact HDB.out.rev; exact HDB.out.most) (by simp)).mono ?_
    rintro e X3 ⟨rfl, t3⟩
    have G3 := Lib.hid t3
    clear t3 v0 v1 v2 v3 v4 v5 v6 vl
    go_wp2_with fail
    go_roundw
    case rel => exact ⟨k + 1, by go_num, by omega, HEND.out _ _ _ (G3.out.drop (fun q hq => List.mem_cons_of_mem _ hq)) (by simp [badA, HKD.out]) (by simp [wact, HKD.out])⟩
    case measure => simp [intOf]; omega
   ·by_cases hk2 : d.kind = 2
    ·have k1 : (d.kind == 1) = false := by simp [hk2]
     have k2 : (d.kind == 2) = true := by simp [hk2]
     have k3 : (d.kind == 3) = false := by simp [hk2]
     have HKD := Lib.hid hk2
     clear hk2
     have vc := (G1.out.blk (List.mem_cons_self ..)).cell
     have v0 := vc 0
     have v1 := vc 1
     have v2 := vc 2
     have v3 := vc 3
     have v4 := vc 4
     have v5 := vc 5
     have v6 := vc 6
     clear vc
     simp only [dac, List.getElem?_toArray, List.getElem?_cons_zero, List.getElem?_cons_succ] at v0 v1 v2 v3 v4 v5 v6
     have vl := (G1.out.blk (List.mem_cons_self ..)).lt
     go_wp2_with fail
     refine (ek_texts G1.out [d.key, d.val] (by intro n hn; simp at hn; rcases hn with rfl | rfl; exact HDB.out.key; exact HDB.out.val) (by simp)).mono ?_
     rintro e X2 ⟨rfl, t2⟩
     have G2 := Lib.hid t2
     clear t2 v0 v1 v2 v3 v4 v5 v6 vl
     go_wp2_with fail
     go_roundw
     case rel => exact ⟨k + 1, by go_num, by omega, HEND.out _ _ _ (G2.out.drop (fun q hq => List.mem_cons_of_mem _ hq)) (by simp [badA, HKD.out]) (by simp [wact, HKD.out])⟩
     case measure => simp [intOf]; omega
    ·by_cases hk3 : d.kind = 3
     ·have k1 : (d.kind == 1) = false := by simp [hk3]
      have k2 : (d.kind == 2) = false := by simp [hk3]
      have k3 : (d.kind == 3) = true := by simp [hk3]
      have HKD := Lib.hid hk3
      clear hk3
      have vc := (G1.out.blk (List.mem_cons_self ..)).cell
      have v0 := vc 0
      have v1 := vc 1
      have v2 := vc 2
      have v3 := vc 3
      have v4 := vc 4
      have v5 := vc 5
      have v6 := vc 6
      clear vc
      simp only [dac, List.getElem?_toArray, List.getElem?_cons_zero, List.getElem?_cons_succ] at v0 v1 v2 v3 v4 v5 v6
      have vl := (G1.out.blk (List.mem_cons_self ..)).lt
      go_wp2_with fail
      refine (ek_texts G1.out [d.fr, d.to_] (by intro n hn; simp at hn; rcases hn with rfl | rfl; exact HDB.out.fr; exact HDB.out.to_) (by simp)).mono ?_
      rintro e X2 ⟨rfl, t2⟩
      have G2 := Lib.hid t2
      clear t2 v0 v1 v2 v3 v4 v5 v6 vl
      go_wp2_with fail
      go_roundw
      case rel => exact ⟨k + 1, by go_num, by omega, HEND.out _ _ _ (G2.out.drop (fun q hq => List.mem_cons_of_mem _ hq)) (by simp [badA, HKD.out]) (by simp [wact, HKD.out])⟩
      case measure => simp [intOf]; omega
     ·have k1 : (d.kind == 1) = false := by simp [hk1]
      have k2 : (d.kind == 2) = false := by simp [hk2]
      have k3 : (d.kind == 3) = false := by simp [hk3]
      have HKD : Hid (¬ d.kind = 1 ∧ ¬ d.kind = 2 ∧ ¬ d.kind = 3) := ⟨hk1, hk2, hk3⟩
      clear hk1 hk2 hk3
      have vc := (G1.out.blk (List.mem_cons_self ..)).cell
      have v0 := vc 0
      have v1 := vc 1
      have v2 := vc 2
      have v3 := vc 3
      have v4 := vc 4
      have v5 := vc 5
      have v6 := vc 6
      clear vc
      simp only [dac, List.getElem?_toArray, List.getElem?_cons_zero, List.getElem?_cons_succ] at v0 v1 v2 v3 v4 v5 v6
      have vl := (G1.out.blk (List.mem_cons_self ..)).lt
      have gb := G1.out.bad
      go_upto_region 14 with fail
      obtain ⟨X2, hX2⟩ : ∃ X2, X2 = X1.setCell ⟨p, 2, none⟩ (.bool true) := ⟨_, rfl⟩
      have G2 : Hid (Ek w0 X2 ((eb, 108, (dac d).toArray) :: K) p true _) := Lib.hid (by rw [hX2]; exact G1.out.setBad true)
      rw [← hX2]
      clear hX2 gb v0 v1 v2 v3 v4 v5 v6 vl
      go_wp2_with fail
      go_roundw
      case rel => exact ⟨k + 1, by go_num, by omega, HEND.out _ _ _ (G2.out.drop (fun q hq => List.mem_cons_of_mem _ hq)) (by simp [badA, HKD.out]) (by simp [wact, HKD.out])⟩
      case measure => simp [intOf]; omega
  ·obtain rfl : k = l.length := by omega
   have HF : Hid (Ek w0 W K p (bd || l.any badA) (wacts st l)) := by
    have := HW.out
    rw [List.take_length] at this
    exact this
   go_wp2_with fail
   go_end0
   exact ⟨rfl, HF.out⟩
end Go.Proofs.Ytjfaplmojpldhaa
