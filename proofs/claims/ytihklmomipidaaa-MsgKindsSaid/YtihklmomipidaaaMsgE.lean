/-
  What Encode calls: the numbers' closure, the writer's methods, with what stands besides. No condition but the sizes.
-/
import Derived.Test.YtihklmomipidaaaMsgD
import Derived.Test.YtihklmomipidaaaPackW2
namespace Go.Proofs.Ytihklmomipidaaa
open Go.RowKit
set_option linter.unusedSimpArgs false
set_option linter.unusedVariables false
set_option maxRecDepth 100000

theorem Wr.lt {w : World} {p : Nat} {S : List Nat} {st : WS} (h : Wr w p S st) : ∀ g, g ∈ S → g < w.heap.size := by
  obtain ⟨a, cap, h1, h2, h3, h4, h5⟩ := h
  subst h4
  intro g hg
  rcases List.mem_cons.1 hg with rfl | hg
  · exact h1.lt
  · exact h2.lt g hg
def ints (ns : List Int) : List Value := ns.map (Value.int .i64)
set_option maxHeartbeats 2000000 in
theorem nums_any (ns : List Int) (g : Nat) (pw p : Nat) (S : List Nat) (st : WS) (w : World) (hb : Blk w g 3 (ints ns).toArray) (hpw : Blk w pw 63 #[.pointer (some ⟨p, 0, none⟩)]) (hW : Wr w p S st) (h1 : pw ∉ S) (h2 : g ∉ S) (hn : ∀ n ∈ ns, n < 9223372036854775808) (hl : ns.length ≤ 100) :
    Calls Try.prog 24 #[.slice (some ⟨g, 0, none⟩) ns.length ns.length, .pointer (some ⟨pw, 0, none⟩)] w fun e w' => e = .returned (.tuple #[]) ∧ ∃ S', Wr w' p S' (ns.foldl wnum st) ∧ Step S S' w w' := by
  have H0 := Lib.hid (And.intro hb (And.intro hpw (And.intro hW (And.intro h1 (And.intro h2 hn)))))
  clear hb hpw hW h1 h2 hn
  go_enter Try.func24, Try.ntmps24
  go_wp2_with fail
  go_loopw [7] (fun i W => ∃ k : Nat, i = .int .i64 k ∧ k ≤ ns.length ∧ Hid (∃ S', Wr W p S' ((ns.take k).foldl wnum st) ∧ Step S S' w W)) (fun i _ => ns.length - (intOf i).toNat)
  case atStart => exact ⟨0, rfl, by omega, S, by simpa using H0.out.2.2.1, Step.refl _ _⟩
  case round =>
    rename World => W
    obtain ⟨k, rfl, hk, HW⟩ := hrel
    obtain ⟨S', HS⟩ : ∃ S', Hid (Wr W p S' ((ns.take k).foldl wnum st) ∧ Step S S' w W) := HW.out
    by_cases hlt : k < ns.length
    · have hlt' : (k : Int) < ns.length := by omega
      obtain ⟨n, hn⟩ : ∃ n, ns[k]? = some n := ⟨_, List.getElem?_eq_getElem hlt⟩
      have cn : W.cell? ⟨g, k, none⟩ = some (.int .i64 n) := by
        rw [(H0.out.1.step HS.out.2 H0.out.2.2.2.2.1).cell]
        simp [ints, hn]
      have cp : W.cell? ⟨pw, 0, none⟩ = some (.pointer (some ⟨p, 0, none⟩)) := by
        rw [(H0.out.2.1.step HS.out.2 H0.out.2.2.2.1).cell]
        rfl
      have gl := World.block_lt_of_cell? _ _ cn
      have gp := World.block_lt_of_cell? _ _ cp
      simp only at gl gp
      have HN := Lib.hid hn
      have hnb := H0.out.2.2.2.2.2 n (List.mem_of_getElem? hn)
      clear hn
      go_wp2_with fail
      refine (num_any p S' _ n hnb W HS.out.1).mono ?_
      rintro e w2 ⟨rfl, S2, g2, k2⟩
      have H2 : Hid (Wr w2 p S2 ((ns.take (k + 1)).foldl wnum st) ∧ Step S S2 w w2) := ⟨by rw [List.take_add_one, HN.out]; simpa using g2, HS.out.2.trans k2⟩
      clear g2 k2 cn cp gl gp
      go_wp2_with fail
      go_roundw
      case rel => exact ⟨k + 1, by go_num, by omega, S2, H2.out.1, H2.out.2⟩
      case measure => simp [intOf]; omega
    · obtain rfl : k = ns.length := by omega
      have HF : Hid (∃ S', Wr W p S' (ns.foldl wnum st) ∧ Step S S' w W) := ⟨S', by have := HS.out.1; rwa [List.take_length] at this, HS.out.2⟩
      go_wp2_with fail
      go_end0
      exact ⟨rfl, HF.out⟩

/-- What stands while a message is written: its flat form in block `br`, the writer's pointer in `pw`. -/
def EncS (w0 w : World) (br : Nat) (x : Rw) (s : Value) (pw p : Nat) (st : WS) (S : List Nat) : Prop :=
  Blk w br 24 (rwc x s).toArray ∧ Blk w pw 63 #[.pointer (some ⟨p, 0, none⟩)] ∧ Wr w p S st ∧ br ∉ S ∧ pw ∉ S ∧ Step [] S w0 w
def Enc (w0 w : World) (br : Nat) (x : Rw) (s : Value) (pw p : Nat) (st : WS) : Prop := ∃ S, EncS w0 w br x s pw p st S
theorem Enc.out {w0 w : World} {br : Nat} {x : Rw} {s : Value} {pw p : Nat} {st : WS} (h : Enc w0 w br x s pw p st) : Step [] [] w0 w := by
  obtain ⟨S, h⟩ := h
  exact h.2.2.2.2.2.drop (by simp)
theorem Enc.raw {w0 w : World} {br : Nat} {x : Rw} {s : Value} {pw p : Nat} {st : WS} (h : Enc w0 w br x s pw p st) : Blk w br 24 (rwc x s).toArray := by
  obtain ⟨S, h⟩ := h
  exact h.1
theorem Enc.ptr {w0 w : World} {br : Nat} {x : Rw} {s : Value} {pw p : Nat} {st : WS} (h : Enc w0 w br x s pw p st) : w.cell? ⟨pw, 0, none⟩ = some (.pointer (some ⟨p, 0, none⟩)) ∧ pw < w.heap.size := by
  obtain ⟨S, h⟩ := h
  exact ⟨by rw [h.2.1.cell]; rfl, h.2.1.lt⟩
theorem Enc.quiet {w0 w w' : World} {br : Nat} {x : Rw} {s : Value} {pw p : Nat} {st : WS} (h : Enc w0 w br x s pw p st) (k : Step [] [] w w') : Enc w0 w' br x s pw p st := by
  obtain ⟨S, h1, h2, h3, h4, h5, h6⟩ := h
  exact ⟨S, h1.step k (by simp), h2.step k (by simp), h3.step k (by simp), h4, h5, h6.trans (by simpa using k.frame S)⟩
theorem Enc.of {w0 w w' : World} {br : Nat} {x : Rw} {s : Value} {pw p : Nat} {st st' : WS} {S S' : List Nat} (h : EncS w0 w br x s pw p st S) (g : Wr w' p S' st') (k : Step S S' w w') : Enc w0 w' br x s pw p st' := by
  obtain ⟨h1, h2, h3, h4, h5, h6⟩ := h
  exact ⟨S', h1.step k h4, h2.step k h5, g, k.notin h1.lt h4, k.notin h2.lt h5, h6.trans k⟩
def EncPost (w0 : World) (br : Nat) (x : Rw) (s : Value) (pw p : Nat) (st : WS) (e : Ending) (w' : World) : Prop := e = .returned (.tuple #[]) ∧ Enc w0 w' br x s pw p st
theorem enc_num {w0 w : World} {br : Nat} {x : Rw} {s : Value} {pw p : Nat} {st : WS} (h : Enc w0 w br x s pw p st) (n : Int) (hn : n < 9223372036854775808) :
    Calls Try.prog 25 #[.pointer (some ⟨p, 0, none⟩), .int .i64 n] w (EncPost w0 br x s pw p (wnum st n)) := by
  obtain ⟨S, h⟩ := h
  exact (num_any p S st n hn w h.2.2.1).mono fun e w' ⟨he, S', g, k⟩ => ⟨he, Enc.of h g k⟩
theorem enc_text {w0 w : World} {br : Nat} {x : Rw} {s : Value} {pw p : Nat} {st : WS} (h : Enc w0 w br x s pw p st) (t : List UInt8) (ht : t.length ≤ 562949953421312) :
    Calls Try.prog 27 #[.pointer (some ⟨p, 0, none⟩), Str t] w (EncPost w0 br x s pw p (wtext st t)) := by
  obtain ⟨S, h⟩ := h
  exact (text_any p S st t w h.2.2.1 ht).mono fun e w' ⟨he, S', g, k⟩ => ⟨he, Enc.of h g k⟩
theorem enc_flag {w0 w : World} {br : Nat} {x : Rw} {s : Value} {pw p : Nat} {st : WS} (h : Enc w0 w br x s pw p st) (b : Bool) :
    Calls Try.prog 26 #[.pointer (some ⟨p, 0, none⟩), .bool b] w (EncPost w0 br x s pw p (wflag st b)) := by
  obtain ⟨S, h⟩ := h
  exact (flag_any p S st b w h.2.2.1).mono fun e w' ⟨he, S', g, k⟩ => ⟨he, Enc.of h g k⟩
theorem enc_bytes {w0 w : World} {br : Nat} {x : Rw} {s : Value} {pw p : Nat} {st : WS} (h : Enc w0 w br x s pw p st) :
    Calls Try.prog 28 #[.pointer (some ⟨p, 0, none⟩)] w fun e w' => e = .returned (.tuple #[Str (wbytes st).1, .int .i64 (wbytes st).2]) ∧ Step [] [] w0 w' := by
  have H := h
  obtain ⟨S, h⟩ := h
  exact (bytes_any p S st w h.2.2.1).mono fun e w' ⟨he, k⟩ => ⟨he, H.out.trans k⟩
/-- The numbers' closure, called with numbers that were just laid. -/
theorem enc_nums {w0 w : World} {br : Nat} {x : Rw} {s : Value} {pw p : Nat} {st : WS} (h : Enc w0 w br x s pw p st) (ns : List Int) (hn : ∀ n ∈ ns, n < 9223372036854775808) (hl : ns.length ≤ 100) :
    Calls Try.prog 24 #[.slice (some ⟨w.heap.size, 0, none⟩) ns.length ns.length, .pointer (some ⟨pw, 0, none⟩)] (w.alloc (.cells (ints ns).toArray 3)) (EncPost w0 br x s pw p (ns.foldl wnum st)) := by
  obtain ⟨S, h1, h2, h3, h4, h5, h6⟩ := h
  have k := (Step.refl [] w).alloc (.cells (ints ns).toArray 3)
  have h' : EncS w0 (w.alloc (.cells (ints ns).toArray 3)) br x s pw p st S := ⟨h1.alloc _, h2.alloc _, h3.step k (by simp), h4, h5, h6.alloc _⟩
  refine (nums_any ns w.heap.size pw p S st _ (Blk.new w _ _) (h2.alloc _) (h3.step k (by simp)) h5 (fun hg => Nat.lt_irrefl _ (h3.lt _ hg)) hn hl).mono ?_
  rintro e w' ⟨he, S', g, k'⟩
  exact ⟨he, Enc.of h' g k'⟩
/-- The beginning. -/
theorem Enc.new (w : World) (x : Rw) (s : Value) : Enc w (((w.alloc (.cells (rwc x s).toArray 24)).alloc (.cells #[.slice none 0 0, .int .i64 0] 66)).alloc (.cells #[.pointer (some ⟨w.heap.size + 1, 0, none⟩)] 63)) w.heap.size x s (w.heap.size + 1 + 1) (w.heap.size + 1) ⟨[], 0⟩ := by
  have s1 : ∀ o, (w.alloc o).heap.size = w.heap.size + 1 := fun o => by simp
  have s2 : ∀ o o', ((w.alloc o).alloc o').heap.size = w.heap.size + 1 + 1 := fun o o' => by simp
  have b1 := Blk.new (w.alloc (.cells (rwc x s).toArray 24)) 66 #[.slice none 0 0, .int .i64 0]
  have b2 := Blk.new ((w.alloc (.cells (rwc x s).toArray 24)).alloc (.cells #[.slice none 0 0, .int .i64 0] 66)) 63 #[.pointer (some ⟨w.heap.size + 1, 0, none⟩)]
  rw [s1] at b1
  rw [s2] at b2
  refine ⟨[w.heap.size + 1], ((Blk.new w _ _).alloc _).alloc _, b2, ⟨none, 0, b1.alloc _, Row.none _ _, by simp [blks], by simp [blks], by simp⟩, by simp, by simp, ?_⟩
  have k := ((Step.refl [] w).alloc (.cells (rwc x s).toArray 24)).hold (.cells #[.slice none 0 0, .int .i64 0] 66)
  rw [s1] at k
  exact k.alloc _
end Go.Proofs.Ytihklmomipidaaa
