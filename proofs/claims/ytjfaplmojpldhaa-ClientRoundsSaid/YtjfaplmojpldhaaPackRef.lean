/-
  Layer 3's reference: Number, Bytes, Written. Conditions: numbers below 2^63, texts of at most 2^49 bytes.
-/
import Derived.Test.YtjfaplmojpldhaaPackItems
import Derived.Deep.RegionHeld3
namespace Go.Proofs.Ytjfaplmojpldhaa
open Go.RowKit
set_option linter.unusedSimpArgs false
set_option linter.unusedVariables false
set_option maxRecDepth 100000

set_option maxHeartbeats 400000 in
theorem refNumber_any (n : Int) (hn : n < 9223372036854775808) (w : World) :
    Calls Try.prog 53 #[.int .i64 n] w fun e w' => e = .returned (Str (numB n.toNat)) ∧ Step [] [] w w' := by
  have kc := fun (w : World) (x : Int) (T : TypeId) (h0 : 0 ≤ x) (h1 : x < 256) => run_str_one (P := Try.prog) 77 9 5 Try.underlying77 Try.underlying5 Try.underlying9 w x T h0 h1
  have hN : Hid (n.toNat < 256 ^ 8) := by show n.toNat < 256 ^ 8; omega
  go_enter Try.func53, Try.ntmps53
  go_wp2
  go_loopw [0, 3, 4] (fun m s k wr => ∃ (m' k' : Nat) (low : List UInt8), ((0 ≤ n ∧ m = .int .i64 m') ∨ (n ≤ 0 ∧ m = .int .i64 n ∧ m' = 0)) ∧ s = Str low ∧ k = .int .i64 k' ∧ k' ≤ 8 ∧ low.length = k' ∧ (m' : Int) ≤ n.toNat ∧ Hid (be n.toNat = be m' ++ low ∧ m' < 256 ^ (8 - k') ∧ Step [] [] w wr))
    (fun m _ _ _ => (intOf m).toNat)
  case atStart =>
    refine ⟨n.toNat, 0, [], ?_, rfl, rfl, by omega, rfl, by omega, by simp, hN.out, Step.refl _ _⟩
    by_cases h : 0 ≤ n
    · exact .inl ⟨h, by congr 1; omega⟩
    · exact .inr ⟨by omega, rfl, by omega⟩
  case round =>
    obtain ⟨m, k, low, hm, rfl, rfl, hk8, hlow, hmn, H⟩ := hrel
    have hl1 : low.length + 1 ≤ 9223372036854775807 := by omega
    rcases hm with ⟨h0, rfl⟩ | ⟨h0, rfl, rfl⟩
    · by_cases hp : 0 < m
      · have m0 : 0 ≤ (m : Int) % 256 := by omega
        have m1 : (m : Int) % 256 < 256 := by omega
        obtain ⟨q1, q2, q3⟩ := H.out
        have hk : k < 8 := by
          rcases Nat.lt_or_ge k 8 with h | h
          · exact h
          · have : k = 8 := by omega
            subst this
            simp at q2
            omega
        clear q1 q2 q3
        go_wp2_with fail
        go_roundw
        case rel =>
          obtain ⟨q1, q2, q3⟩ := H.out
          refine ⟨m / 256, k + 1, UInt8.ofNat m :: low, .inl ⟨h0, by go_num⟩, ?_, by go_num, by omega, by simp [hlow], by omega, ?_, ?_, q3.alloc _⟩
          · rw [show UInt8.ofNat (m % 256) = UInt8.ofNat m from by apply UInt8.toNat_inj.1; simp [UInt8.toNat_ofNat']]
          · rw [q1, be_pos m hp]; simp
          · have h8 : 8 - k = (8 - (k + 1)) + 1 := by omega
            rw [h8, Nat.pow_succ] at q2
            omega
        case measure => simp [intOf]; omega
      · obtain rfl : m = 0 := by omega
        have k0 : 0 ≤ (k : Int) := by omega
        have k1 : (k : Int) < 256 := by omega
        go_wp2_with fail
        go_ret
        obtain ⟨q1, q2, q3⟩ := H.out
        rw [be_zero, List.nil_append] at q1
        refine ⟨?_, q3.alloc _⟩
        rw [numB, q1, hlow]
        rfl
    · have k0 : 0 ≤ (k : Int) := by omega
      have k1 : (k : Int) < 256 := by omega
      have hlt : ¬ 0 < n := by omega
      go_wp2_with fail
      go_ret
      obtain ⟨q1, q2, q3⟩ := H.out
      rw [be_zero, List.nil_append] at q1
      refine ⟨?_, q3.alloc _⟩
      rw [numB, q1, hlow]
      rfl

/-- A thing's bytes. -/
def itB (x : It) : List UInt8 := if x.k = 1 then numB x.s.length ++ x.s else if x.k = 2 then numB (if x.b then 1 else 0) else numB x.n.toNat

set_option maxHeartbeats 400000 in
theorem refBytes_any (x : It) (hx : x.ok) (w : World) :
    Calls Try.prog 52 #[.agg #[.int .i64 x.k, .int .i64 x.n, Str x.s, .bool x.b]] w fun e w' => e = .returned (Str (itB x)) ∧ Step [] [] w w' := by
  obtain ⟨k, n, s, b⟩ := x
  obtain ⟨h1, h2⟩ := hx
  simp only at h1 h2
  by_cases e1 : k = 1
  · subst e1
    go_enter Try.func52, Try.ntmps52
    have hb := numB_len s.length (by omega)
    have hb2 : (numB s.length).length + s.length ≤ 9223372036854775807 := by omega
    go_wp2_with fail
    go_region_held3 (fun w' => w'.cell? ⟨w.heap.size, 2, none⟩ = some (Str s) ∧ Step [] [] w w') (first | exact ⟨by go_keep, ((Step.refl _ _).alloc _).drew⟩ | exact ⟨Step.cell hk (And.left (by assumption)) (by simp), Step.trans (And.right (by assumption)) hk⟩)
      (first | (go_at_call 53; refine (refNumber_any _ (by omega) _).mono ?_; rintro e w1 ⟨rfl, hk⟩) | fail)
    go_wp2_with fail
    go_ret
    exact ⟨by simp [itB], And.right (by assumption)⟩
  · have e1' : (k == 1) = false := by simpa using e1
    have E1 := Lib.hid e1
    clear e1
    by_cases e2 : k = 2
    · have e2' : (k == 2) = true := by simpa using e2
      have E2 := Lib.hid e2
      clear e2
      cases b
      all_goals
        go_enter Try.func52, Try.ntmps52
        go_wp2_with fail
        refine (refNumber_any _ (by omega) _).mono ?_
        rintro e w1 ⟨rfl, hk⟩
        go_wp2_with fail
        go_ret
        exact ⟨by simp [itB, E2.out], ((Step.refl _ _).alloc _).trans hk⟩
    · have e2' : (k == 2) = false := by simpa using e2
      have E2 := Lib.hid e2
      clear e2
      go_enter Try.func52, Try.ntmps52
      go_wp2_with fail
      refine (refNumber_any _ (by omega) _).mono ?_
      rintro e w1 ⟨rfl, hk⟩
      go_wp2_with fail
      go_ret
      exact ⟨by simp [itB, E1.out, E2.out], ((Step.refl _ _).alloc _).trans hk⟩

theorem itB_len (x : It) (hx : x.ok) : (itB x).length ≤ 562949953421321 := by
  obtain ⟨h1, h2⟩ := hx
  unfold itB
  split
  · have := numB_len x.s.length (by omega)
    simp; omega
  · split
    · have := numB_len (if x.b then 1 else 0) (by split <;> omega)
      omega
    · have := numB_len x.n.toNat (by omega)
      omega

/-- What the reference writes: the bytes, or the fault's number. -/
def written (out : List UInt8) : List It → List UInt8 × Int
  | [] => (out, 0)
  | x :: l => if x.k = 0 ∧ (x.n < 0 ∨ 4611686018427387903 < x.n) then ([], 1) else if 2097152 < out.length + (itB x).length then ([], 2) else written (out ++ itB x) l

def WrittenPost (l : List It) (w : World) (e : Ending) (w' : World) : Prop := e = .returned (.tuple #[Str (written [] l).1, .int .i64 (written [] l).2]) ∧ Step [] [] w w'

set_option maxHeartbeats 1000000 in
theorem written_some (l : List It) (g off : Nat) (cap : Nat) (w : World) (hl : l.length ≤ 9223372036854775807) (hr : Rd w 4 (some ⟨g, off, none⟩) l.length (itcs l)) (hok : ∀ x ∈ l, x.ok) :
    Calls Try.prog 35 #[.slice (some ⟨g, off, none⟩) l.length cap] w (WrittenPost l w) := by
  have HR := Lib.hid (And.intro hr hok)
  clear hr hok
  obtain ⟨i0, hi, hz0, hz1, hz2⟩ := info_parts Try.info_bytes
  have HI := Lib.hid (And.intro hi (And.intro hz0 (And.intro hz1 hz2)))
  clear hi hz0 hz1 hz2
  go_enter Try.func35, Try.ntmps35
  go_wp2_with fail
  go_loopw [4, 5] (fun o i wr => ∃ (k : Nat) (out : List UInt8) (a : Option Addr) (c : Nat), k ≤ l.length ∧ i = .int .i64 k ∧ o = .slice a out.length c ∧ out.length ≤ 2097152 ∧
      Hid (Row wr 1 a out.length c (out.map bv) ∧ Step [] (blks a) w wr ∧ written [] l = written out (l.drop k)))
    (fun _ i _ => l.length - (intOf i).toNat)
  case atStart =>
    exact ⟨0, [], some ⟨w.heap.size, 0, none⟩, 0, Nat.zero_le _, rfl, rfl, by simp, Row.empty _ _ _, ((Step.refl [] w).hold _).drop (by simp [blks]), rfl⟩
  case round =>
    obtain ⟨k, out, a, c, hk, rfl, rfl, ho, H⟩ := hrel
    by_cases hlt : k < l.length
    · obtain ⟨hrow, hst, hwr⟩ := H.out
      have hx : l[k]? = some l[k] := List.getElem?_eq_getElem hlt
      have hok := HR.out.2 l[k] (List.getElem_mem hlt)
      obtain ⟨c0, c1, c2, c3⟩ := rd_item (HR.out.1.step0 hst) hx
      have hdrop : l.drop k = l[k] :: l.drop (k + 1) := List.drop_eq_getElem_cons hlt
      rw [hdrop] at hwr
      generalize l[k] = x at *
      have hlen := itB_len x hok
      have HH := Lib.hid (And.intro hok (And.intro hrow (And.intro hst hwr)))
      clear hdrop hx hwr hok hrow hst H
      by_cases hbad : x.k = 0 ∧ (x.n < 0 ∨ 4611686018427387903 < x.n)
      · have hres : Hid (written [] l = ([], 1)) := by
          show written [] l = ([], 1)
          rw [HH.out.2.2.2, written, if_pos hbad]
        obtain ⟨e0, e1⟩ := hbad
        have e0' : (x.k == 0) = true := by simpa using e0
        clear e0
        rcases e1 with e1 | e1
        all_goals
          go_wp2_with fail
          go_ret2
          refine ⟨?_, HH.out.2.2.1.drop (by simp)⟩
          rw [hres.out]
          rfl
      · by_cases hlong : 2097152 < out.length + (itB x).length
        · have hres : Hid (written [] l = ([], 2)) := by
            show written [] l = ([], 2)
            rw [HH.out.2.2.2, written, if_neg hbad, if_pos hlong]
          have hlong' : (2097152 : Int) < (out.length : Int) + ((itB x).length : Int) := by omega
          clear hlong
          have hcase : ((x.k == 0) = false) ∨ ((x.k == 0) = true ∧ 0 ≤ x.n ∧ x.n ≤ 4611686018427387903) := by
            by_cases e0 : x.k = 0
            · exact .inr ⟨by simpa using e0, by omega, by omega⟩
            · exact .inl (by simpa using e0)
          clear hbad
          rcases hcase with e0 | ⟨e0, e1, e2⟩
          all_goals
            go_wp2_with fail
            refine (refBytes_any x HH.out.1 _).mono ?_
            rintro e w1 ⟨rfl, hk1⟩
            go_wp2_with fail
            go_ret2
            refine ⟨?_, (HH.out.2.2.1.trans (hk1.keep _)).drop (by simp)⟩
            rw [hres.out]
            rfl
        · have hres : Hid (written [] l = written (out ++ itB x) (l.drop (k + 1))) := by
            show written [] l = _
            rw [HH.out.2.2.2, written, if_neg hbad, if_neg hlong]
          have hlong' : (out.length : Int) + ((itB x).length : Int) ≤ 2097152 := by omega
          clear hlong
          have hcase : ((x.k == 0) = false) ∨ ((x.k == 0) = true ∧ 0 ≤ x.n ∧ x.n ≤ 4611686018427387903) := by
            by_cases e0 : x.k = 0
            · exact .inr ⟨by simpa using e0, by omega, by omega⟩
            · exact .inl (by simpa using e0)
          clear hbad
          rcases hcase with e0 | ⟨e0, e1, e2⟩
          all_goals
            go_wp2_with fail
            refine (refBytes_any x HH.out.1 _).mono ?_
            rintro e w1 ⟨rfl, hk1⟩
            have hrow1 := Lib.hid (HH.out.2.1.step hk1 (by simp))
            go_wp2_with (at_builtin; refine wpList_append_row rfl (.tmp 47) (.tmp 48) 77 9 rfl 5 i0 _ 1 1 Try.underlying77 HI.out.1 HI.out.2.1 HI.out.2.2.1 HI.out.2.2.2 rfl rfl hrow1.out rfl (Src.str w1 9 Try.underlying9 (itB x)) (by unfold maxLen; omega) (by omega) (by omega) ?_; intro a' cap' w' hr hst)
            go_roundw
            case rel => exact ⟨k + 1, out ++ itB x, a', cap', by omega, by go_num, by simp, by simp; omega, by simpa using hr, (HH.out.2.2.1.trans (hk1.keep _)).trans hst, hres.out⟩
            case measure => simp [intOf]; omega
    · have hkl := Lib.hid (show k = l.length by omega)
      have hcv := run_str_of_row (P := Try.prog) 77 9 5 Try.underlying77 Try.underlying5 Try.underlying9 H.out.1
      go_wp2_with fail
      go_ret2
      obtain ⟨hrow, hst, hwr⟩ := H.out
      rw [hkl.out, List.drop_length] at hwr
      refine ⟨?_, hst.drop (by simp)⟩
      rw [hwr]
      rfl

set_option maxHeartbeats 400000 in
theorem written_any (l : List It) (a : Option Addr) (cap : Nat) (w : World) (hl : l.length ≤ 9223372036854775807) (hr : Rd w 4 a l.length (itcs l)) (hok : ∀ x ∈ l, x.ok) :
    Calls Try.prog 35 #[.slice a l.length cap] w (WrittenPost l w) := by
  rcases Nat.eq_zero_or_pos l.length with h0 | h0
  · have hn : l = [] := List.eq_nil_of_length_eq_zero h0
    subst hn
    clear hr
    have hcv := run_str_of_row (P := Try.prog) 77 9 5 Try.underlying77 Try.underlying5 Try.underlying9 (l := []) (Row.empty w 5 1)
    go_enter Try.func35, Try.ntmps35
    go_wp2_with fail
    refine wp_loop_rounds 1 ?_
    rw [rounds_succ]
    go_wp2_with fail
    go_ret2
    exact ⟨rfl, (Step.refl [] w).alloc _⟩
  · obtain ⟨g, off, e⟩ := hr.some_ h0
    subst e
    exact written_some l g off cap w hl hr hok
end Go.Proofs.Ytjfaplmojpldhaa
