/-
 req's writer: nums, texts, ids; what stands while a request is written. Condition: texts of at most 2^49 bytes, at most 100 of them.
-/
import Derived.Test.YtjfaplmojpldhaaZGB
import Derived.Test.YtjfaplmojpldhaaZReqC
namespace Go.Proofs.Ytjfaplmojpldhaa
open Go.RowKit
set_option linter.unusedSimpArgs false
set_option linter.unusedVariables false
set_option maxRecDepth 100000

/-- All that a walk asks of a block of 18 cells. -/
theorem Blk.all18 {w : World} {b : Nat} {T : TypeId} {v0 v1 v2 v3 v4 v5 v6 v7 v8 v9 v10 v11 v12 v13 v14 v15 v16 v17 : Value} (h : Blk w b T #[v0, v1, v2, v3, v4, v5, v6, v7, v8, v9, v10, v11, v12, v13, v14, v15, v16, v17]) :
  (w.cell? ⟨b, 0, none⟩ = some v0 ∧ w.cell? ⟨b, 1, none⟩ = some v1 ∧ w.cell? ⟨b, 2, none⟩ = some v2 ∧ w.cell? ⟨b, 3, none⟩ = some v3 ∧ w.cell? ⟨b, 4, none⟩ = some v4 ∧ w.cell? ⟨b, 5, none⟩ = some v5 ∧ w.cell? ⟨b, 6, none⟩ = some v6 ∧ w.cell? ⟨b, 7, none⟩ = some v7 ∧ w.cell? ⟨b, 8, none⟩ = some v8 ∧ w.cell? ⟨b, 9, none⟩ = some v9 ∧ w.cell? ⟨b, 10, none⟩ = some v10 ∧ w.cell? ⟨b, 11, none⟩ = some v11 ∧ w.cell? ⟨b, 12, none⟩ = some v12 ∧ w.cell? ⟨b, 13, none⟩ = some v13 ∧ w.cell? ⟨b, 14, none⟩ = some v14 ∧ w.cell? ⟨b, 15, none⟩ = some v15 ∧ w.cell? ⟨b, 16, none⟩ = some v16 ∧ w.cell? ⟨b, 17, none⟩ = some v17) ∧ b < w.heap.size ∧ w.frozen? ⟨b, 0, none⟩ = false ∧ w.frozen? ⟨b, 1, none⟩ = false ∧ w.frozen? ⟨b, 2, none⟩ = false ∧ w.frozen? ⟨b, 3, none⟩ = false ∧ w.frozen? ⟨b, 4, none⟩ = false ∧ w.frozen? ⟨b, 5, none⟩ = false ∧ w.frozen? ⟨b, 6, none⟩ = false ∧ w.frozen? ⟨b, 7, none⟩ = false ∧ w.frozen? ⟨b, 8, none⟩ = false ∧ w.frozen? ⟨b, 9, none⟩ = false ∧ w.frozen? ⟨b, 10, none⟩ = false ∧ w.frozen? ⟨b, 11, none⟩ = false ∧ w.frozen? ⟨b, 12, none⟩ = false ∧ w.frozen? ⟨b, 13, none⟩ = false ∧ w.frozen? ⟨b, 14, none⟩ = false ∧ w.frozen? ⟨b, 15, none⟩ = false ∧ w.frozen? ⟨b, 16, none⟩ = false ∧ w.frozen? ⟨b, 17, none⟩ = false :=
 ⟨⟨h.cell 0, h.cell 1, h.cell 2, h.cell 3, h.cell 4, h.cell 5, h.cell 6, h.cell 7, h.cell 8, h.cell 9, h.cell 10, h.cell 11, h.cell 12, h.cell 13, h.cell 14, h.cell 15, h.cell 16, h.cell 17⟩, h.lt, h.frozen 0, h.frozen 1, h.frozen 2, h.frozen 3, h.frozen 4, h.frozen 5, h.frozen 6, h.frozen 7, h.frozen 8, h.frozen 9, h.frozen 10, h.frozen 11, h.frozen 12, h.frozen 13, h.frozen 14, h.frozen 15, h.frozen 16, h.frozen 17⟩
def intsV (ns : List Int) : List Value := ns.map (Value.int .i64)
def strsV (ts : List (List UInt8)) : List Value := ts.map fun t => Str t
set_option maxHeartbeats 2000000 in
theorem numsq_any (ns : List Int) (g p : Nat) (S : List Nat) (bd : Bool) (st : WS) (w : World) (hb : Blk w g 3 (intsV ns).toArray) (hW : Wq w p S bd st) (h2 : g ∉ S) (hn : ∀ n ∈ ns, n < 9223372036854775808) (hl : ns.length ≤ 100) :
  Calls Try.prog 60 #[.pointer (some ⟨p, 0, none⟩), .slice (some ⟨g, 0, none⟩) ns.length ns.length] w (WqPost p S bd (ns.foldl wnum st) w) := by
 have H0 := Lib.hid (And.intro hb (And.intro hW (And.intro h2 hn)))
 clear hb hW h2 hn
 go_enter Try.func60, Try.ntmps60
 go_wp2_with fail
 go_loopw [8] (fun i W => ∃ k : Nat, i = .int .i64 k ∧ k ≤ ns.length ∧ Hid (∃ S', Wq W p S' bd ((ns.take k).foldl wnum st) ∧ Step S S' w W)) (fun i _ => ns.length - (intOf i).toNat)
 case atStart => exact ⟨0, rfl, by omega, S, by simpa using H0.out.2.1, Step.refl _ _⟩
 case round =>
  rename World => W
  obtain ⟨k, rfl, hk, HW⟩ := hrel
  obtain ⟨S', HS⟩ : ∃ S', Hid (Wq W p S' bd ((ns.take k).foldl wnum st) ∧ Step S S' w W) := HW.out
  by_cases hlt : k < ns.length
  ·have hlt' : (k : Int) < ns.length := by omega
   obtain ⟨n, hn⟩ : ∃ n, ns[k]? = some n := ⟨_, List.getElem?_eq_getElem hlt⟩
   have cn : W.cell? ⟨g, k, none⟩ = some (.int .i64 n) := by
    rw [(H0.out.1.step HS.out.2 H0.out.2.2.1).cell]
    simp [intsV, hn]
   have gl := World.block_lt_of_cell? _ _ cn
   simp only at gl
   have HN := Lib.hid hn
   have hnb := H0.out.2.2.2 n (List.mem_of_getElem? hn)
   clear hn
   go_wp2_with fail
   refine (numq_any p S' _ n hnb W HS.out.1).mono ?_
   rintro e w2 ⟨rfl, S2, g2, k2⟩
   have H2 : Hid (Wq w2 p S2 bd ((ns.take (k + 1)).foldl wnum st) ∧ Step S S2 w w2) := ⟨by rw [List.take_add_one, HN.out]; simpa using g2, HS.out.2.trans k2⟩
   clear g2 k2 cn gl
   go_wp2_with fail
   go_roundw
   case rel => exact ⟨k + 1, by go_num, by omega, S2, H2.out.1, H2.out.2⟩
   case measure => simp [intOf]; omega
  ·obtain rfl : k = ns.length := by omega
   have HF : Hid (∃ S', Wq W p S' bd (ns.foldl wnum st) ∧ Step S S' w W) := ⟨S', by have := HS.out.1; rwa [List.take_length] at this, HS.out.2⟩
   go_wp2_with fail
   go_end0
   exact ⟨rfl, HF.out⟩
set_option maxHeartbeats 2000000 in
theorem textsq_any (ns : List (List UInt8)) (g p : Nat) (S : List Nat) (bd : Bool) (st : WS) (w : World) (hb : Blk w g 9 (strsV ns).toArray) (hW : Wq w p S bd st) (h2 : g ∉ S) (hn : ∀ n ∈ ns, n.length ≤ 562949953421312) (hl : ns.length ≤ 100) :
  Calls Try.prog 62 #[.pointer (some ⟨p, 0, none⟩), .slice (some ⟨g, 0, none⟩) ns.length ns.length] w (WqPost p S bd (ns.foldl wtext st) w) := by
 have H0 := Lib.hid (And.intro hb (And.intro hW (And.intro h2 hn)))
 clear hb hW h2 hn
 go_enter Try.func62, Try.ntmps62
 go_wp2_with fail
 go_loopw [8] (fun i W => ∃ k : Nat, i = .int .i64 k ∧ k ≤ ns.length ∧ Hid (∃ S', Wq W p S' bd ((ns.take k).foldl wtext st) ∧ Step S S' w W)) (fun i _ => ns.length - (intOf i).toNat)
 case atStart => exact ⟨0, rfl, by omega, S, by simpa using H0.out.2.1, Step.refl _ _⟩
 case round =>
  rename World => W
  obtain ⟨k, rfl, hk, HW⟩ := hrel
  obtain ⟨S', HS⟩ : ∃ S', Hid (Wq W p S' bd ((ns.take k).foldl wtext st) ∧ Step S S' w W) := HW.out
  by_cases hlt : k < ns.length
  ·have hlt' : (k : Int) < ns.length := by omega
   obtain ⟨n, hn⟩ : ∃ n, ns[k]? = some n := ⟨_, List.getElem?_eq_getElem hlt⟩
   have cn : W.cell? ⟨g, k, none⟩ = some (Str n) := by
    rw [(H0.out.1.step HS.out.2 H0.out.2.2.1).cell]
    simp [strsV, hn]
   have gl := World.block_lt_of_cell? _ _ cn
   simp only at gl
   have HN := Lib.hid hn
   have hnb := H0.out.2.2.2 n (List.mem_of_getElem? hn)
   clear hn
   go_wp2_with fail
   refine (textq_any p S' _ n W HS.out.1 hnb).mono ?_
   rintro e w2 ⟨rfl, S2, g2, k2⟩
   have H2 : Hid (Wq w2 p S2 bd ((ns.take (k + 1)).foldl wtext st) ∧ Step S S2 w w2) := ⟨by rw [List.take_add_one, HN.out]; simpa using g2, HS.out.2.trans k2⟩
   clear g2 k2 cn gl
   go_wp2_with fail
   go_roundw
   case rel => exact ⟨k + 1, by go_num, by omega, S2, H2.out.1, H2.out.2⟩
   case measure => simp [intOf]; omega
  ·obtain rfl : k = ns.length := by omega
   have HF : Hid (∃ S', Wq W p S' bd (ns.foldl wtext st) ∧ Step S S' w W) := ⟨S', by have := HS.out.1; rwa [List.take_length] at this, HS.out.2⟩
   go_wp2_with fail
   go_end0
   exact ⟨rfl, HF.out⟩
def okIds (c s : Int) : Bool := decide (1 ≤ c) && decide (c ≤ 8) && decide (1 ≤ s) && decide (s ≤ 1099511627776)
theorem ids_any (c s : Int) (w : World) : Calls Try.prog 59 #[.int .i64 c, .int .i64 s] w fun e w' => e = .returned (.bool (okIds c s)) ∧ w = w' := by
 cases h1 : decide (1 ≤ c) with
 | false =>
  have HE : Hid (okIds c s = false) := Lib.hid (by simp only [okIds, h1, Bool.false_and])
  go_enter Try.func59, Try.ntmps59
  go_wp2_with fail
  exact bodyPost_ret (results_tmp rfl _ _ _) rfl ⟨by rw [HE.out]; rfl, rfl⟩
 | true =>
  cases h2 : decide (c ≤ 8) with
  | false =>
   have HE : Hid (okIds c s = false) := Lib.hid (by simp only [okIds, h1, h2, Bool.false_and, Bool.and_false])
   go_enter Try.func59, Try.ntmps59
   go_wp2_with fail
   exact bodyPost_ret (results_tmp rfl _ _ _) rfl ⟨by rw [HE.out]; rfl, rfl⟩
  | true =>
   cases h3 : decide (1 ≤ s) with
   | false =>
    have HE : Hid (okIds c s = false) := Lib.hid (by simp only [okIds, h1, h2, h3, Bool.false_and, Bool.and_false])
    go_enter Try.func59, Try.ntmps59
    go_wp2_with fail
    exact bodyPost_ret (results_tmp rfl _ _ _) rfl ⟨by rw [HE.out]; rfl, rfl⟩
   | true =>
    have HE : Hid (okIds c s = decide (s ≤ 1099511627776)) := Lib.hid (by simp only [okIds, h1, h2, h3, Bool.true_and])
    go_enter Try.func59, Try.ntmps59
    go_wp2_with fail
    exact bodyPost_ret (results_tmp rfl _ _ _) rfl ⟨by rw [HE.out]; rfl, rfl⟩

/-- What stands while something is written: a writer in block `p`, and the blocks of `K`. -/
def Ek (w0 w : World) (K : List (Nat × TypeId × Array Value)) (p : Nat) (bd : Bool) (st : WS) : Prop := ∃ S, Wq w p S bd st ∧ Step [] S w0 w ∧ ∀ q ∈ K, Blk w q.1 q.2.1 q.2.2 ∧ q.1 ∉ S
section
variable {w0 w w' : World} {K : List (Nat × TypeId × Array Value)} {p : Nat} {bd : Bool} {st : WS}
theorem Ek.out (h : Ek w0 w K p bd st) : Step [] [] w0 w := by
 obtain ⟨S, h⟩ := h
 exact h.2.1.drop (by simp)
theorem Ek.blk (h : Ek w0 w K p bd st) {b : Nat} {T : TypeId} {cs : Array Value} (hq : (b, T, cs) ∈ K) : Blk w b T cs := by
 obtain ⟨S, h1, h2, h3⟩ := h
 exact (h3 _ hq).1
theorem Wq.lt {S : List Nat} (h : Wq w p S bd st) : ∀ g ∈ S, g < w.heap.size := by
 obtain ⟨a, cap, h1, h2, h3, rfl, h5⟩ := h
 intro g hg
 rcases List.mem_cons.1 hg with rfl | hg
 ·exact h1.lt
 ·exact h2.lt g hg
theorem Wq.bad {S : List Nat} (h : Wq w p S bd st) : w.cell? ⟨p, 2, none⟩ = some (.bool bd) ∧ p < w.heap.size ∧ w.frozen? ⟨p, 2, none⟩ = false := by
 obtain ⟨a, cap, h1, h2, h3, rfl, h5⟩ := h
 exact ⟨by rw [h1.cell]; rfl, h1.lt, h1.frozen 2⟩
theorem Ek.bad (h : Ek w0 w K p bd st) : w.cell? ⟨p, 2, none⟩ = some (.bool bd) ∧ p < w.heap.size ∧ w.frozen? ⟨p, 2, none⟩ = false := by
 obtain ⟨S, h⟩ := h
 exact h.1.bad
theorem Ek.quiet (h : Ek w0 w K p bd st) (k : Step [] [] w w') : Ek w0 w' K p bd st := by
 obtain ⟨S, h1, h2, h3⟩ := h
 exact ⟨S, h1.step k (by simp), h2.trans (by simpa using k.frame S), fun q hq => ⟨(h3 q hq).1.step k (by simp), (h3 q hq).2⟩⟩
theorem Ek.drop {K' : List (Nat × TypeId × Array Value)} (h : Ek w0 w K p bd st) (hk : ∀ q ∈ K', q ∈ K) : Ek w0 w K' p bd st := by
 obtain ⟨S, h1, h2, h3⟩ := h
 exact ⟨S, h1, h2, fun q hq => h3 q (hk q hq)⟩
/-- A new block besides. -/
theorem Ek.push (h : Ek w0 w K p bd st) (T : TypeId) (cs : Array Value) : Ek w0 (w.alloc (.cells cs T)) ((w.heap.size, T, cs) :: K) p bd st := by
 have h' := h.quiet ((Step.refl [] w).alloc (.cells cs T))
 obtain ⟨S0, g1, _, _⟩ := h
 obtain ⟨S, h1, h2, h3⟩ := h'
 obtain ⟨a, cap, e1, e2, e3, e4, e5⟩ := g1
 obtain ⟨a', cap', f1, f2, f3, f4, f5⟩ := h1
 have hs : S = S0 := by
  have hb : Blk (w.alloc (.cells cs T)) p 145 #[.slice a st.b.length cap, .int .i64 st.f, .bool bd] := e1.alloc _
  unfold Blk at hb f1
  rw [hb] at f1
  injection f1 with f1
  injection f1 with f1 _ _
  have : Value.slice a st.b.length cap = Value.slice a' st.b.length cap' := by simpa using f1
  injection this with this _ _
  rw [f4, e4, this]
 refine ⟨S, ⟨a', cap', f1, f2, f3, f4, f5⟩, h2, fun q hq => ?_⟩
 rcases List.mem_cons.1 hq with rfl | hq
 ·refine ⟨Blk.new w T cs, fun hm => ?_⟩
  rw [hs] at hm
  exact Nat.lt_irrefl _ (Wq.lt ⟨a, cap, e1, e2, e3, e4, e5⟩ _ hm)
 ·exact h3 q hq
theorem Ek.of {S S' : List Nat} {bd' : Bool} {st' : WS} (h2 : Step [] S w0 w) (h3 : ∀ q ∈ K, Blk w q.1 q.2.1 q.2.2 ∧ q.1 ∉ S) (g : Wq w' p S' bd' st') (k : Step S S' w w') : Ek w0 w' K p bd' st' :=
 ⟨S', g, h2.trans k, fun q hq => ⟨(h3 q hq).1.step k (h3 q hq).2, k.notin (h3 q hq).1.lt (h3 q hq).2⟩⟩
/-- The third cell is set. -/
theorem Ek.setBad (h : Ek w0 w K p bd st) (b : Bool) : Ek w0 (w.setCell ⟨p, 2, none⟩ (.bool b)) K p b st := by
 obtain ⟨S, h1, h2, h3⟩ := h
 obtain ⟨a, cap, e1, e2, e3, e4, e5⟩ := h1
 have ss : Step [p] [p] w (w.setCell ⟨p, 2, none⟩ (.bool b)) := (Step.refl [p] w).setCell (.inl (by simp)) _
 have s2 : Step S S w (w.setCell ⟨p, 2, none⟩ (.bool b)) := (Step.refl S w).setCell (.inl (by simp [e4])) _
 exact Ek.of h2 h3 ⟨a, cap, e1.set 2 (.bool b), e2.step ss (by intro g hg; simp; rintro rfl; exact e3 hg), e3, e4, e5⟩ s2
def EkPost (w0 : World) (K : List (Nat × TypeId × Array Value)) (p : Nat) (bd : Bool) (st : WS) (e : Ending) (w' : World) : Prop := e = .returned (.tuple #[]) ∧ Ek w0 w' K p bd st
theorem ek_num (h : Ek w0 w K p bd st) (n : Int) (hn : n < 9223372036854775808) : Calls Try.prog 30 #[.pointer (some ⟨p, 0, none⟩), .int .i64 n] w (EkPost w0 K p bd (wnum st n)) := by
 obtain ⟨S, h1, h2, h3⟩ := h
 exact (numq_any p S st n hn w h1).mono fun e w' ⟨he, S', g, k⟩ => ⟨he, Ek.of h2 h3 g k⟩
theorem ek_text (h : Ek w0 w K p bd st) (t : List UInt8) (ht : t.length ≤ 562949953421312) : Calls Try.prog 61 #[.pointer (some ⟨p, 0, none⟩), Str t] w (EkPost w0 K p bd (wtext st t)) := by
 obtain ⟨S, h1, h2, h3⟩ := h
 exact (textq_any p S st t w h1 ht).mono fun e w' ⟨he, S', g, k⟩ => ⟨he, Ek.of h2 h3 g k⟩
theorem ek_flag (h : Ek w0 w K p bd st) (b : Bool) : Calls Try.prog 64 #[.pointer (some ⟨p, 0, none⟩), .bool b] w (EkPost w0 K p bd (wflag st b)) := by
 obtain ⟨S, h1, h2, h3⟩ := h
 exact (flagq_any p S st b w h1).mono fun e w' ⟨he, S', g, k⟩ => ⟨he, Ek.of h2 h3 g k⟩
theorem ek_bytes (h : Ek w0 w K p bd st) : Calls Try.prog 31 #[.pointer (some ⟨p, 0, none⟩)] w fun e w' => e = .returned (.tuple #[Str (wbytes st).1, .int .i64 (wbytes st).2]) ∧ Step [] [] w0 w' := by
 have H := h
 obtain ⟨S, h1, h2, h3⟩ := h
 exact (bytesq_any p S st w h1).mono fun e w' ⟨he, k⟩ => ⟨he, H.out.trans k⟩
/-- Numbers, texts that were just laid. -/
theorem ek_nums (h : Ek w0 w K p bd st) (ns : List Int) (hn : ∀ n ∈ ns, n < 9223372036854775808) (hl : ns.length ≤ 100) :
  Calls Try.prog 60 #[.pointer (some ⟨p, 0, none⟩), .slice (some ⟨w.heap.size, 0, none⟩) ns.length ns.length] (w.alloc (.cells (intsV ns).toArray 3)) (EkPost w0 K p bd (ns.foldl wnum st)) := by
 obtain ⟨S, h1, h2, h3⟩ := h.push 3 (intsV ns).toArray
 have hq := h3 _ (List.mem_cons_self ..)
 exact (numsq_any ns w.heap.size p S bd st _ hq.1 h1 hq.2 hn hl).mono fun e w' ⟨he, S', g, k⟩ => ⟨he, Ek.of h2 (fun q hq => h3 q (List.mem_cons_of_mem _ hq)) g k⟩
theorem ek_texts (h : Ek w0 w K p bd st) (ns : List (List UInt8)) (hn : ∀ n ∈ ns, n.length ≤ 562949953421312) (hl : ns.length ≤ 100) :
  Calls Try.prog 62 #[.pointer (some ⟨p, 0, none⟩), .slice (some ⟨w.heap.size, 0, none⟩) ns.length ns.length] (w.alloc (.cells (strsV ns).toArray 9)) (EkPost w0 K p bd (ns.foldl wtext st)) := by
 obtain ⟨S, h1, h2, h3⟩ := h.push 9 (strsV ns).toArray
 have hq := h3 _ (List.mem_cons_self ..)
 exact (textsq_any ns w.heap.size p S bd st _ hq.1 h1 hq.2 hn hl).mono fun e w' ⟨he, S', g, k⟩ => ⟨he, Ek.of h2 (fun q hq => h3 q (List.mem_cons_of_mem _ hq)) g k⟩
end
end Go.Proofs.Ytjfaplmojpldhaa
