/-
  Layer 3's things as the statements write them: put. Condition: texts of at most 2^49 bytes.
-/
import Derived.Test.YtjdmigoindhdnaaPackW2
namespace Go.Proofs.Ytjdmigoindhdnaa
open Go.RowKit
set_option linter.unusedSimpArgs false
set_option linter.unusedVariables false

/-- A thing. -/
structure It where
  k : Int
  n : Int
  s : List UInt8
  b : Bool

def itc (x : It) : List Value := [.int .i64 x.k, .int .i64 x.n, Str x.s, .bool x.b]
def itcs (l : List It) : List Value := l.flatMap itc
theorem itcs_len (l : List It) : (itcs l).length = l.length * 4 := by
  induction l with
  | nil => rfl
  | cons x l ih => simp [itcs, itc] at ih ⊢; omega
theorem itcs_at (l : List It) (i : Nat) (x : It) (h : l[i]? = some x) (j : Nat) (hj : j < 4) : (itcs l)[i * 4 + j]? = (itc x)[j]? := by
  induction l generalizing i with
  | nil => simp at h
  | cons y l ih =>
    cases i with
    | zero =>
      simp at h
      subst h
      simp only [itcs, List.flatMap_cons]
      rw [List.getElem?_append_left (by simp [itc]; omega)]
      simp
    | succ i =>
      simp at h
      have := ih i h
      simp only [itcs, List.flatMap_cons] at this ⊢
      rw [List.getElem?_append_right (by simp [itc]; omega), ← this]
      congr 1
      simp [itc]
      omega

theorem rd_item {w : World} {l : List It} {g off : Nat} {sp n} (h : Rd w 4 (some ⟨g, off, sp⟩) n (itcs l)) {k : Nat} {x : It} (hx : l[k]? = some x) :
    w.cell? ⟨g, off + k * 4, none⟩ = some (.int .i64 x.k) ∧ w.cell? ⟨g, off + k * 4 + 1, none⟩ = some (.int .i64 x.n) ∧ w.cell? ⟨g, off + k * 4 + 2, none⟩ = some (Str x.s) ∧ w.cell? ⟨g, off + k * 4 + 3, none⟩ = some (.bool x.b) :=
  ⟨h.cell g off sp rfl (k * 4 + 0) _ ((itcs_at l k _ hx 0 (by omega)).trans rfl), h.cell g off sp rfl (k * 4 + 1) _ ((itcs_at l k _ hx 1 (by omega)).trans rfl),
   h.cell g off sp rfl (k * 4 + 2) _ ((itcs_at l k _ hx 2 (by omega)).trans rfl), h.cell g off sp rfl (k * 4 + 3) _ ((itcs_at l k _ hx 3 (by omega)).trans rfl)⟩

/-- A thing that fits: its number is an int, its text is not too long. -/
def It.ok (x : It) : Prop := x.n < 9223372036854775808 ∧ x.s.length ≤ 562949953421312

def wone (st : WS) (x : It) : WS := if x.k = 1 then wtext st x.s else if x.k = 2 then wflag st x.b else wnum st x.n

def PutPost (l : List It) (w : World) (e : Ending) (w' : World) : Prop := ∃ p S, e = .returned (.pointer (some ⟨p, 0, none⟩)) ∧ Wr w' p S (l.foldl wone ⟨[], 0⟩) ∧ Step [] S w w'

set_option maxHeartbeats 400000 in
theorem put_items_some (l : List It) (g off : Nat) (cap : Nat) (w : World) (hl : l.length ≤ 9223372036854775807) (hr : Rd w 4 (some ⟨g, off, none⟩) l.length (itcs l)) (hok : ∀ x ∈ l, x.ok) :
    Calls Try.prog 10 #[.slice (some ⟨g, off, none⟩) l.length cap] w (PutPost l w) := by
  have HR := Lib.hid (And.intro hr hok)
  clear hr hok
  go_enter Try.func10, Try.ntmps10
  go_wp2_with fail
  go_loopw [9] (fun i wr => ∃ k : Nat, k ≤ l.length ∧ i = .int .i64 k ∧ Hid (∃ S, Wr wr w.heap.size S ((l.take k).foldl wone ⟨[], 0⟩) ∧ Step [] S w wr))
    (fun i _ => l.length - (intOf i).toNat)
  case atStart => 
    refine ⟨0, Nat.zero_le _, rfl, [w.heap.size], ⟨none, 0, Blk.new _ _ _, Row.none _ _, by simp [blks], rfl, by simp⟩, (Step.refl [] w).hold _⟩
  case round =>
    obtain ⟨k, hk, rfl, H⟩ := hrel
    by_cases hlt : k < l.length
    · obtain ⟨S, hw, hst⟩ := H.out
      have hx : l[k]? = some l[k] := List.getElem?_eq_getElem hlt
      have hok := HR.out.2 l[k] (List.getElem_mem hlt)
      obtain ⟨c0, c1, c2, c3⟩ := rd_item (HR.out.1.step0 hst) hx
      have hfold : (l.take (k + 1)).foldl wone ⟨[], 0⟩ = wone ((l.take k).foldl wone ⟨[], 0⟩) l[k] := by
        rw [List.take_succ_eq_append_getElem hlt, List.foldl_append]; rfl
      have HF := Lib.hid hfold
      clear hfold hx
      generalize l[k] = x at *
      generalize (l.take k).foldl wone ⟨[], 0⟩ = st at *
      have Hw := Lib.hid (And.intro hw hst)
      have Hok := Lib.hid hok
      clear hw hst hok H
      by_cases h1 : x.k = 1
      · have e1 : (x.k == 1) = true := by simpa using h1
        have H1 := Lib.hid h1
        clear h1
        go_wp2_with fail
        refine (text_any _ S st x.s wr Hw.out.1 Hok.out.2).mono ?_
        rintro e w2 ⟨rfl, S', h2, hk2⟩
        go_wp2_with fail
        go_roundw
        case rel => exact ⟨k + 1, by omega, by go_num, S', by rw [HF.out]; simp only [wone, H1.out, if_true]; exact h2, Hw.out.2.trans hk2⟩
        case measure => simp [intOf]; omega
      · have e1 : (x.k == 1) = false := by simpa using h1
        have H1 := Lib.hid h1
        clear h1
        by_cases h2 : x.k = 2
        · have e2 : (x.k == 2) = true := by simpa using h2
          have H2 := Lib.hid h2
          clear h2
          go_wp2_with fail
          refine (flag_any _ S st x.b wr Hw.out.1).mono ?_
          rintro e w2 ⟨rfl, S', h2, hk2⟩
          go_wp2_with fail
          go_roundw
          case rel => exact ⟨k + 1, by omega, by go_num, S', by rw [HF.out]; simp only [wone]; rw [if_neg H1.out, if_pos H2.out]; exact h2, Hw.out.2.trans hk2⟩
          case measure => simp [intOf]; omega
        · have e2 : (x.k == 2) = false := by simpa using h2
          have H2 := Lib.hid h2
          clear h2
          go_wp2_with fail
          refine (num_any _ S st x.n Hok.out.1 wr Hw.out.1).mono ?_
          rintro e w2 ⟨rfl, S', h2, hk2⟩
          go_wp2_with fail
          go_roundw
          case rel => exact ⟨k + 1, by omega, by go_num, S', by rw [HF.out]; simp only [wone]; rw [if_neg H1.out, if_neg H2.out]; exact h2, Hw.out.2.trans hk2⟩
          case measure => simp [intOf]; omega
    · have hkl : k = l.length := by omega
      have hkl' := Lib.hid hkl
      clear hkl
      go_wp2_with fail
      go_ret
      obtain ⟨S, hw, hst⟩ := H.out
      rw [hkl'.out, List.take_length] at hw
      exact ⟨_, S, rfl, hw, hst⟩

set_option maxHeartbeats 400000 in
theorem put_items (l : List It) (a : Option Addr) (cap : Nat) (w : World) (hl : l.length ≤ 9223372036854775807) (hr : Rd w 4 a l.length (itcs l)) (hok : ∀ x ∈ l, x.ok) :
    Calls Try.prog 10 #[.slice a l.length cap] w (PutPost l w) := by
  rcases Nat.eq_zero_or_pos l.length with h0 | h0
  · have hn : l = [] := List.eq_nil_of_length_eq_zero h0
    subst hn
    clear hr
    go_enter Try.func10, Try.ntmps10
    go_wp2_with fail
    refine wp_loop_rounds 1 ?_
    rw [rounds_succ]
    go_wp2_with fail
    go_ret
    exact ⟨_, [w.heap.size], rfl, ⟨none, 0, Blk.new _ _ _, Row.none _ _, by simp [blks], rfl, by simp⟩, (Step.refl [] w).hold _⟩
  · obtain ⟨g, off, e⟩ := hr.some_ h0
    subst e
    exact put_items_some l g off cap w hl hr hok
end Go.Proofs.Ytjdmigoindhdnaa
