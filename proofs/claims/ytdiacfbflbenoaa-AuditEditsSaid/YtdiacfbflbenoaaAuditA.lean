/-
  audit.isNum, right, after, parts, Next, and the reference's num, Right. Condition: texts of at most 2^30 bytes.
-/
import Derived.Test.YtdiacfbflbenoaaAuditPlain
import Derived.Test.YtdiacfbflbenoaaMem5
namespace Go.Proofs.Ytdiacfbflbenoaa
open Go.RowKit
set_option linter.unusedSimpArgs false
set_option linter.unusedVariables false

/-- A line as a value. -/
abbrev lnV (x : Ln) : Value := .agg #[.int .i64 x.index, .int .i64 x.client, .int .i64 x.seq, Str x.user, .int .i64 x.kind, .int .i64 x.err, Str x.digest, Str x.hash]
abbrev lnc (x : Ln) : List Value := [.int .i64 x.index, .int .i64 x.client, .int .i64 x.seq, Str x.user, .int .i64 x.kind, .int .i64 x.err, Str x.digest, Str x.hash]

theorem isNum_any (n : Int) (w : World) : Calls Try.prog 38 #[.int .i64 n] w fun e w' => e = .returned (.bool (isNumL n)) ∧ w = w' := by
  by_cases h0 : 0 ≤ n
  · by_cases h1 : n ≤ 1099511627776
    · go_enter Try.func38, Try.ntmps38
      go_wp2_with fail
      go_ret
      exact ⟨by (simp [isNumL, *]; try omega), rfl⟩
    · go_enter Try.func38, Try.ntmps38
      go_wp2_with fail
      go_ret
      exact ⟨by (simp [isNumL, *]; try omega), rfl⟩
  · go_enter Try.func38, Try.ntmps38
    go_wp2_with fail
    go_ret
    exact ⟨by (simp [isNumL, *]; try omega), rfl⟩
theorem refNum19_any (n : Int) (w : World) : Calls Try.prog 41 #[.int .i64 n] w fun e w' => e = .returned (.bool (isNumL n)) ∧ w = w' := by
  by_cases h0 : 0 ≤ n
  · by_cases h1 : n ≤ 1099511627776
    · go_enter Try.func41, Try.ntmps41
      go_wp2_with fail
      go_ret
      exact ⟨by (simp [isNumL, *]; try omega), rfl⟩
    · go_enter Try.func41, Try.ntmps41
      go_wp2_with fail
      go_ret
      exact ⟨by (simp [isNumL, *]; try omega), rfl⟩
  · go_enter Try.func41, Try.ntmps41
    go_wp2_with fail
    go_ret
    exact ⟨by (simp [isNumL, *]; try omega), rfl⟩

set_option maxHeartbeats 1000000 in
theorem lineRight_any (x : Ln) (w : World) :
    Calls Try.prog 24 #[lnV x] w fun e w' => e = .returned (.bool (rightLn x)) ∧ Step [] [] w w' := by
  obtain ⟨index, client, seq, user, kind, err, digest, hash⟩ := x
  by_cases hi : 1 ≤ index
  · skip
    go_enter Try.func24, Try.ntmps24
    go_wp2_with fail
    refine (isNum_any _ _).mono ?_
    rintro e w1 ⟨rfl, rfl⟩
    cases hn_index : isNumL index with
    | false =>
      go_wp2_with fail
      go_ret
      exact ⟨by (simp [rightLn, *]; try omega), (Step.refl [] w).alloc _⟩
    | true =>
      go_wp2_with fail
      refine (isNum_any _ _).mono ?_
      rintro e w1 ⟨rfl, rfl⟩
      cases hn_client : isNumL client with
      | false =>
        go_wp2_with fail
        go_ret
        exact ⟨by (simp [rightLn, *]; try omega), (Step.refl [] w).alloc _⟩
      | true =>
        go_wp2_with fail
        refine (isNum_any _ _).mono ?_
        rintro e w1 ⟨rfl, rfl⟩
        cases hn_seq : isNumL seq with
        | false =>
          go_wp2_with fail
          go_ret
          exact ⟨by (simp [rightLn, *]; try omega), (Step.refl [] w).alloc _⟩
        | true =>
          go_wp2_with fail
          refine (isNum_any _ _).mono ?_
          rintro e w1 ⟨rfl, rfl⟩
          cases hn_kind : isNumL kind with
          | false =>
            go_wp2_with fail
            go_ret
            exact ⟨by (simp [rightLn, *]; try omega), (Step.refl [] w).alloc _⟩
          | true =>
            by_cases he0 : 0 ≤ err
            · by_cases he1 : err ≤ 255
              · have he1b : err < 256 := by omega
                by_cases hu : user.length ≤ 96
                · have hu1 : (user.length : Int) ≤ 96 := by omega
                  by_cases hd : digest.length = 32
                  · have hd1 : ((digest.length : Int) == 32) = true := by simp; omega
                    go_wp2_with fail
                    go_ret
                    exact ⟨by (simp [rightLn, *]; try omega), (Step.refl [] w).alloc _⟩
                  · have hd1 : ((digest.length : Int) == 32) = false := by simp; omega
                    go_wp2_with fail
                    go_ret
                    exact ⟨by (simp [rightLn, *]; try omega), (Step.refl [] w).alloc _⟩
                · have hu1 : ¬ (user.length : Int) ≤ 96 := by omega
                  go_wp2_with fail
                  go_ret
                  exact ⟨by (simp [rightLn, *]; try omega), (Step.refl [] w).alloc _⟩
              · have he1b : ¬ err < 256 := by omega
                go_wp2_with fail
                go_ret
                exact ⟨by (simp [rightLn, *]; try omega), (Step.refl [] w).alloc _⟩
            · skip
              go_wp2_with fail
              go_ret
              exact ⟨by (simp [rightLn, *]; try omega), (Step.refl [] w).alloc _⟩
  · have hi1 : ¬ 1 ≤ index := hi
    go_enter Try.func24, Try.ntmps24
    go_wp2_with fail
    go_ret
    exact ⟨by (simp [rightLn, *]; try omega), (Step.refl [] w).alloc _⟩

set_option maxHeartbeats 1000000 in
theorem refLineRight_any (x : Ln) (w : World) :
    Calls Try.prog 28 #[lnV x] w fun e w' => e = .returned (.bool (rightLn x)) ∧ Step [] [] w w' := by
  obtain ⟨index, client, seq, user, kind, err, digest, hash⟩ := x
  by_cases hi : 1 ≤ index
  · have hi1 : 0 < index := by omega
    go_enter Try.func28, Try.ntmps28
    go_wp2_with fail
    refine (refNum19_any _ _).mono ?_
    rintro e w1 ⟨rfl, rfl⟩
    cases hn_index : isNumL index with
    | false =>
      go_wp2_with fail
      go_ret
      exact ⟨by (simp [rightLn, *]; try omega), (Step.refl [] w).alloc _⟩
    | true =>
      go_wp2_with fail
      refine (refNum19_any _ _).mono ?_
      rintro e w1 ⟨rfl, rfl⟩
      cases hn_client : isNumL client with
      | false =>
        go_wp2_with fail
        go_ret
        exact ⟨by (simp [rightLn, *]; try omega), (Step.refl [] w).alloc _⟩
      | true =>
        go_wp2_with fail
        refine (refNum19_any _ _).mono ?_
        rintro e w1 ⟨rfl, rfl⟩
        cases hn_seq : isNumL seq with
        | false =>
          go_wp2_with fail
          go_ret
          exact ⟨by (simp [rightLn, *]; try omega), (Step.refl [] w).alloc _⟩
        | true =>
          go_wp2_with fail
          refine (refNum19_any _ _).mono ?_
          rintro e w1 ⟨rfl, rfl⟩
          cases hn_kind : isNumL kind with
          | false =>
            go_wp2_with fail
            go_ret
            exact ⟨by (simp [rightLn, *]; try omega), (Step.refl [] w).alloc _⟩
          | true =>
            by_cases he0 : 0 ≤ err
            · by_cases he1 : err ≤ 255
              · have he1b : err < 256 := by omega
                by_cases hu : user.length ≤ 96
                · have hu1 : (user.length : Int) ≤ 96 := by omega
                  by_cases hd : digest.length = 32
                  · have hd1 : ((digest.length : Int) == 32) = true := by simp; omega
                    go_wp2_with fail
                    go_ret
                    exact ⟨by (simp [rightLn, *]; try omega), (Step.refl [] w).alloc _⟩
                  · have hd1 : ((digest.length : Int) == 32) = false := by simp; omega
                    go_wp2_with fail
                    go_ret
                    exact ⟨by (simp [rightLn, *]; try omega), (Step.refl [] w).alloc _⟩
                · have hu1 : ¬ (user.length : Int) ≤ 96 := by omega
                  go_wp2_with fail
                  go_ret
                  exact ⟨by (simp [rightLn, *]; try omega), (Step.refl [] w).alloc _⟩
              · have he1b : ¬ err < 256 := by omega
                go_wp2_with fail
                go_ret
                exact ⟨by (simp [rightLn, *]; try omega), (Step.refl [] w).alloc _⟩
            · skip
              go_wp2_with fail
              go_ret
              exact ⟨by (simp [rightLn, *]; try omega), (Step.refl [] w).alloc _⟩
  · have hi1 : ¬ 0 < index := by omega
    go_enter Try.func28, Try.ntmps28
    go_wp2_with fail
    go_ret
    exact ⟨by (simp [rightLn, *]; try omega), (Step.refl [] w).alloc _⟩

theorem after_any (n : Int) (w : World) (h1 : n ≤ 9223372036854775807) (h2 : -9223372036854775808 ≤ n) : Calls Try.prog 40 #[.int .i64 n] w fun e w' => e = .returned (.int .i64 (afterL n)) ∧ w = w' := by
  by_cases h0 : n < 0
  · have ha : afterL n = -1 := by simp [afterL, h0]
    rw [ha]
    go_enter Try.func40, Try.ntmps40
    go_wp2_with fail
    go_ret
    exact ⟨rfl, rfl⟩
  · have h0' : 0 ≤ n := by omega
    go_enter Try.func40, Try.ntmps40
    rcases (show 4611686018427387904 < n + 1 ∨ n + 1 ≤ 4611686018427387904 by omega) with h | h
    · have ha : afterL n = 4611686018427387904 := by unfold afterL; rw [if_neg (by omega), if_pos (by omega)]
      rw [ha]
      clear ha
      go_wp2_with fail
      go_ret
      exact ⟨rfl, rfl⟩
    · have ha : afterL n = n + 1 := by unfold afterL; rw [if_neg (by omega)]; split <;> omega
      rw [ha]
      clear ha
      go_wp2_with fail
      go_ret
      exact ⟨rfl, rfl⟩

/-! ### Two writers and a line -/
theorem Wr.lt {w : World} {p : Nat} {S : List Nat} {st : WS} (h : Wr w p S st) : ∀ g, g ∈ S → g < w.heap.size := by
  obtain ⟨a, cap, h1, h2, h3, h4, h5⟩ := h
  subst h4
  intro g hg
  rcases List.mem_cons.1 hg with rfl | hg
  · exact h1.lt
  · exact h2.lt g hg
structure Two (w0 w : World) (b : Nat) (x : Ln) (S T : List Nat) (s1 s2 : WS) : Prop where
  line : Blk w b 32 (lnc x).toArray
  one : Wr w (b + 1) S s1
  two : Wr w (b + 2) T s2
  apart : ∀ g, g ∈ S → g ∉ T
  off1 : b ∉ S
  off2 : b ∉ T
  step : Step [] (S ++ T) w0 w
section
variable {w0 w w' : World} {b : Nat} {x : Ln} {S T S' T' : List Nat} {s1 s2 s' : WS}
theorem Two.put1 (h : Two w0 w b x S T s1 s2) (g : Wr w' (b + 1) S' s') (k : Step S S' w w') : Two w0 w' b x S' T s' s2 :=
  ⟨h.line.step k h.off1, g, h.two.step k (fun i hi hs => h.apart i hs hi), fun i hi ht => (k.notin (h.two.lt i ht) (fun hs => h.apart i hs ht)) hi, k.notin h.line.lt h.off1, h.off2, h.step.trans (k.frameR T)⟩
theorem Two.put2 (h : Two w0 w b x S T s1 s2) (g : Wr w' (b + 2) T' s') (k : Step T T' w w') : Two w0 w' b x S T' s1 s' :=
  ⟨h.line.step k h.off2, h.one.step k (fun i hi ht => h.apart i hi ht), g, fun i hi => k.notin (h.one.lt i hi) (h.apart i hi), h.off1, k.notin h.line.lt h.off2, h.step.trans (k.frame S)⟩
theorem Two.quiet (h : Two w0 w b x S T s1 s2) (k : Step [] [] w w') : Two w0 w' b x S T s1 s2 :=
  ⟨h.line.step k (by simp), h.one.step k (by simp), h.two.step k (by simp), h.apart, h.off1, h.off2, h.step.trans (k.keep _)⟩
theorem Two.cell (h : Two w0 w b x S T s1 s2) : w.cell? ⟨b, 0, none⟩ = some (.int .i64 x.index) ∧ w.cell? ⟨b, 1, none⟩ = some (.int .i64 x.client) ∧ w.cell? ⟨b, 2, none⟩ = some (.int .i64 x.seq) ∧ w.cell? ⟨b, 3, none⟩ = some (Str x.user) ∧
    w.cell? ⟨b, 4, none⟩ = some (.int .i64 x.kind) ∧ w.cell? ⟨b, 5, none⟩ = some (.int .i64 x.err) ∧ w.cell? ⟨b, 6, none⟩ = some (Str x.digest) ∧ w.cell? ⟨b, 7, none⟩ = some (Str x.hash) := by
  refine ⟨?_, ?_, ?_, ?_, ?_, ?_, ?_, ?_⟩ <;> (rw [h.line.cell]; rfl)
theorem Two.new (w : World) (x : Ln) : Two w (((w.alloc (.cells (lnc x).toArray 32)).alloc (.cells #[.slice none 0 0, .int .i64 0] 80)).alloc (.cells #[.slice none 0 0, .int .i64 0] 80)) w.heap.size x [w.heap.size + 1] [w.heap.size + 2] ⟨[], 0⟩ ⟨[], 0⟩ := by
  have h1 : (w.alloc (.cells (lnc x).toArray 32)).heap.size = w.heap.size + 1 := by simp
  have h2 : ((w.alloc (.cells (lnc x).toArray 32)).alloc (.cells #[.slice none 0 0, .int .i64 0] 80)).heap.size = w.heap.size + 2 := by simp
  have b1 := (Blk.new (w.alloc (.cells (lnc x).toArray 32)) 80 #[.slice none 0 0, .int .i64 0]).alloc (.cells #[.slice none 0 0, .int .i64 0] 80)
  have b2 := Blk.new ((w.alloc (.cells (lnc x).toArray 32)).alloc (.cells #[.slice none 0 0, .int .i64 0] 80)) 80 #[.slice none 0 0, .int .i64 0]
  rw [h1] at b1
  rw [h2] at b2
  have k := (((Step.refl [] w).alloc (.cells (lnc x).toArray 32)).hold (.cells #[.slice none 0 0, .int .i64 0] 80)).hold (.cells #[.slice none 0 0, .int .i64 0] 80)
  rw [h1, h2] at k
  refine ⟨((Blk.new w _ _).alloc _).alloc _, ⟨none, 0, b1, Row.none _ _, by simp [blks], rfl, by simp⟩, ⟨none, 0, b2, Row.none _ _, by simp [blks], rfl, by simp⟩, by simp, by simp, by simp, k.drop (by simp)⟩
end

def PartsPost (n : Int) (was : List UInt8) (x : Ln) (w : World) (e : Ending) (w' : World) : Prop := ∃ g, e = .returned (.slice (some ⟨g, 0, none⟩) 3 3) ∧ Rd w' 1 (some ⟨g, 0, none⟩) 3 ((partsL n was x).map Str) ∧ Step [] [] w w'

set_option maxHeartbeats 2000000 in
theorem auditParts_any (n : Int) (was : List UInt8) (x : Ln) (w : World) (hn : n < 9223372036854775808) (hx : x.index < 9223372036854775808 ∧ x.client < 9223372036854775808 ∧ x.seq < 9223372036854775808 ∧ x.kind < 9223372036854775808 ∧ x.err < 9223372036854775808) (hu : x.user.length ≤ 1073741824) (hd : x.digest.length ≤ 1073741824) :
    Calls Try.prog 33 #[.int .i64 n, Str was, lnV x] w (PartsPost n was x w) := by
  obtain ⟨hx1, hx2, hx3, hx4, hx5⟩ := hx
  have hp : partsL n was x = [(wbytes (wnum ⟨[], 0⟩ n)).1, was, (wbytes (lineWs x)).1] := rfl
  have HP := Lib.hid hp
  have H0 := Lib.hid (Two.new w x)
  clear hp
  go_enter Try.func33, Try.ntmps33
  go_wp2_with fail
  refine (num_any _ _ _ n hn _ H0.out.one).mono ?_
  rintro e w1 ⟨rfl, S1, g, k⟩
  have H1 := Lib.hid (H0.out.put1 g k)
  clear g k H0
  have c0 := H1.out.cell.1
  go_wp2_with fail
  refine (num_any _ _ _ x.index hx1 _ H1.out.two).mono ?_
  rintro e w2 ⟨rfl, T2, g, k⟩
  have H2 := Lib.hid (H1.out.put2 g k)
  clear g k H1 c0
  have c1 := H2.out.cell.2.1
  go_wp2_with fail
  refine (num_any _ _ _ x.client hx2 _ H2.out.two).mono ?_
  rintro e w3 ⟨rfl, T3, g, k⟩
  have H3 := Lib.hid (H2.out.put2 g k)
  clear g k H2 c1
  have c2 := H3.out.cell.2.2.1
  go_wp2_with fail
  refine (num_any _ _ _ x.seq hx3 _ H3.out.two).mono ?_
  rintro e w4 ⟨rfl, T4, g, k⟩
  have H4 := Lib.hid (H3.out.put2 g k)
  clear g k H3 c2
  have c3 := H4.out.cell.2.2.2.1
  go_wp2_with fail
  refine (text_any _ _ _ x.user _ H4.out.two (by omega)).mono ?_
  rintro e w5 ⟨rfl, T5, g, k⟩
  have H5 := Lib.hid (H4.out.put2 g k)
  clear g k H4 c3
  have c4 := H5.out.cell.2.2.2.2.1
  go_wp2_with fail
  refine (num_any _ _ _ x.kind hx4 _ H5.out.two).mono ?_
  rintro e w6 ⟨rfl, T6, g, k⟩
  have H6 := Lib.hid (H5.out.put2 g k)
  clear g k H5 c4
  have c5 := H6.out.cell.2.2.2.2.2.1
  go_wp2_with fail
  refine (num_any _ _ _ x.err hx5 _ H6.out.two).mono ?_
  rintro e w7 ⟨rfl, T7, g, k⟩
  have H7 := Lib.hid (H6.out.put2 g k)
  clear g k H6 c5
  have c6 := H7.out.cell.2.2.2.2.2.2.1
  go_wp2_with fail
  refine (text_any _ _ _ x.digest _ H7.out.two (by omega)).mono ?_
  rintro e w8 ⟨rfl, T8, g, k⟩
  have H8 := Lib.hid (H7.out.put2 g k)
  clear g k H7 c6
  go_wp2_with fail
  refine (bytes_any _ _ _ _ H8.out.one).mono ?_
  rintro e w9 ⟨rfl, k⟩
  have H9 := Lib.hid (H8.out.quiet k)
  clear k H8
  go_wp2_with fail
  refine (bytes_any _ _ _ _ H9.out.two).mono ?_
  rintro e w10 ⟨rfl, k⟩
  have HA := Lib.hid (H9.out.quiet k)
  clear k H9
  go_wp2_with fail
  refine bodyPost_ret (results_tmp rfl _ _ _) rfl ⟨w10.heap.size, rfl, ?_, (HA.out.step.alloc _).drop (by simp)⟩
  rw [HP.out]
  exact (row_fresh w10 9 _ (by simp [maxLen])).rd

theorem wput_blen (st : WS) (s : List UInt8) (h : st.b.length ≤ 2097152) : (wput st s).b.length ≤ 2097152 := by
  unfold wput
  split
  · exact h
  · split
    · exact h
    · simp only [List.length_append]; omega
theorem wnum_blen (st : WS) (n : Int) (h : st.b.length ≤ 2097152) : (wnum st n).b.length ≤ 2097152 := by
  unfold wnum
  split
  · exact h
  · exact wput_blen _ _ h
theorem wtext_blen (st : WS) (s : List UInt8) (h : st.b.length ≤ 2097152) : (wtext st s).b.length ≤ 2097152 := wput_blen _ _ h
theorem wbytes_blen (st : WS) (h : st.b.length ≤ 2097152) : (wbytes st).1.length ≤ 2097152 := by
  unfold wbytes
  split
  · exact h
  · simp
theorem lineWs_blen (x : Ln) : (lineWs x).b.length ≤ 2097152 := by
  unfold lineWs
  exact wtext_blen _ _ (wnum_blen _ _ (wnum_blen _ _ (wtext_blen _ _ (wnum_blen _ _ (wnum_blen _ _ (wnum_blen _ _ (by simp)))))))
theorem partsFlat_len (n : Int) (was : List UInt8) (x : Ln) (h : was.length ≤ 1073741824) : (joined (partsL n was x)).length ≤ 1099511627776 := by
  rw [joined_len]
  have h1 := wbytes_blen _ (wnum_blen ⟨[], 0⟩ n (by simp))
  have h2 := wbytes_blen _ (lineWs_blen x)
  simp [partsL]
  omega
theorem Blk.ln {w : World} {b : Nat} {T : TypeId} {x : Ln} (h : Blk w b T (lnc x).toArray) : w.cell? ⟨b, 0, none⟩ = some (.int .i64 x.index) ∧ w.cell? ⟨b, 1, none⟩ = some (.int .i64 x.client) ∧ w.cell? ⟨b, 2, none⟩ = some (.int .i64 x.seq) ∧ w.cell? ⟨b, 3, none⟩ = some (Str x.user) ∧
    w.cell? ⟨b, 4, none⟩ = some (.int .i64 x.kind) ∧ w.cell? ⟨b, 5, none⟩ = some (.int .i64 x.err) ∧ w.cell? ⟨b, 6, none⟩ = some (Str x.digest) ∧ w.cell? ⟨b, 7, none⟩ = some (Str x.hash) := by
  refine ⟨?_, ?_, ?_, ?_, ?_, ?_, ?_, ?_⟩ <;> (rw [h.cell]; rfl)

/-- What a line's numbers are: of kind int. -/
structure LnOk (x : Ln) : Prop where
  index : -9223372036854775808 ≤ x.index ∧ x.index < 9223372036854775808
  client : -9223372036854775808 ≤ x.client ∧ x.client < 9223372036854775808
  seq : -9223372036854775808 ≤ x.seq ∧ x.seq < 9223372036854775808
  kind : -9223372036854775808 ≤ x.kind ∧ x.kind < 9223372036854775808
  err : -9223372036854775808 ≤ x.err ∧ x.err < 9223372036854775808
  user : x.user.length ≤ 1073741824
  digest : x.digest.length ≤ 1073741824
  hash : x.hash.length ≤ 1073741824

set_option maxHeartbeats 2000000 in
theorem auditNext_any (n : Int) (was : List UInt8) (x : Ln) (w : World) (h1 : n ≤ 9223372036854775807) (h2 : -9223372036854775808 ≤ n) (hx : LnOk x) (hw : was.length ≤ 1073741824) :
    Calls Try.prog 26 #[.int .i64 n, Str was, lnV x] w fun e w' => e = .returned (Str (nextL n was x)) ∧ Step [] [] w w' := by
  have ha : afterL n < 9223372036854775808 := by unfold afterL; split <;> (try split) <;> omega
  have hpl := partsFlat_len (afterL n) was x hw
  have hp := auditParts_any (afterL n) was x
  have HB : Hid (Blk (w.alloc (.cells (lnc x).toArray 32)) w.heap.size 32 (lnc x).toArray ∧ Step [] [] w (w.alloc (.cells (lnc x).toArray 32))) := ⟨Blk.new w _ _, (Step.refl [] w).alloc _⟩
  have HX := Lib.hid hx
  clear hx
  have hnx : nextL n was x = sha (joined (partsL (afterL n) was x)) := rfl
  have HN := Lib.hid hnx
  clear hnx
  go_enter Try.func26, Try.ntmps26
  go_wp2_with fail
  refine wp_region_held_drew (S := fun W => Hid (Blk W w.heap.size 32 (lnc x).toArray ∧ Step [] [] w W)) (by kernel_rfl) (⟨HB.out.1.drew, HB.out.2.drew⟩) (fun hHeld => ?_)
  refine wpAnyH_take (i := 0) (v := ?_) rfl (by kernel_rfl) (by kernel_rfl) (by kernel_rfl) (fun _ _ _ h => h) (Or.inl ⟨by rfl, ?_⟩) hHeld ?_
  rotate_left
  · intro w hSw
    have hSw1 := hSw
    clear hSw
    try dsimp only at hSw1
    go_simp
    try (with_reducible rfl)
  try simp only [Act.put, List.setIfInBounds_toArray, List.set_cons_zero, List.set_cons_succ, List.getElem_toArray, List.getElem_cons_zero, List.getElem_cons_succ]
  refine wpAnyH_take (i := 2) (v := ?_) rfl (by kernel_rfl) (by kernel_rfl) (by kernel_rfl) (fun _ _ _ h => h) (Or.inl ⟨by rfl, ?_⟩) hHeld ?_
  rotate_left
  · intro w hSw
    have hSw1 := hSw
    clear hSw
    try dsimp only at hSw1
    go_simp
    try (with_reducible rfl)
  try simp only [Act.put, List.setIfInBounds_toArray, List.set_cons_zero, List.set_cons_succ, List.getElem_toArray, List.getElem_cons_zero, List.getElem_cons_succ]
  refine wpAnyH_take (i := 3) (v := ?_) rfl (by kernel_rfl) (by kernel_rfl) (by kernel_rfl) (fun _ _ _ h => h) (Or.inl ⟨by rfl, ?_⟩) hHeld ?_
  rotate_left
  · intro w hSw
    have hSw1 := hSw
    clear hSw
    have hc := hSw1.out.1.ln
    go_simp
    try (with_reducible rfl)
  try simp only [Act.put, List.setIfInBounds_toArray, List.set_cons_zero, List.set_cons_succ, List.getElem_toArray, List.getElem_cons_zero, List.getElem_cons_succ]
  refine wpAnyH_ready (rs := [1]) (by kernel_rfl) (by simp) ?_
  refine AllReadyH.cons rfl (fun K hK => ?_) AllReadyH.nil
  go_simp
  refine (after_any n _ h1 h2).mono ?_; rintro e w5 ⟨rfl, rfl⟩
  go_wp2_with fail
  refine hK.out _ _ (hHeld) (fun hHeld2 => ?_)
  clear hK K hHeld
  try simp only [Act.put, List.setIfInBounds_toArray, List.set_cons_zero, List.set_cons_succ, List.getElem_toArray, List.getElem_cons_zero, List.getElem_cons_succ]
  refine wpAnyH_ready (rs := [4]) (by kernel_rfl) (by simp) ?_
  refine AllReadyH.cons rfl (fun K hK => ?_) AllReadyH.nil
  go_simp
  refine (hp _ ha ⟨HX.out.index.2, HX.out.client.2, HX.out.seq.2, HX.out.kind.2, HX.out.err.2⟩ HX.out.user HX.out.digest).mono ?_; rintro e w6 ⟨g6, rfl, r6, k6⟩
  go_wp2_with fail
  refine hK.out _ _ (⟨hHeld2.out.1.step k6 (by simp), hHeld2.out.2.trans k6⟩) (fun hHeld3 => ?_)
  clear hK K hHeld2
  try simp only [Act.put, List.setIfInBounds_toArray, List.set_cons_zero, List.set_cons_succ, List.getElem_toArray, List.getElem_cons_zero, List.getElem_cons_succ]
  refine wpAnyH_ready (rs := [5]) (by kernel_rfl) (by simp) ?_
  refine AllReadyH.cons rfl (fun K hK => ?_) AllReadyH.nil
  go_simp
  refine (parts_any (partsL (afterL n) was x) _ 3 _ r6 (by simp [partsL]) hpl).mono ?_; rintro e w7 ⟨rfl, k7⟩
  go_wp2_with fail
  refine hK.out _ _ (⟨hHeld3.out.1.step k7 (by simp), hHeld3.out.2.trans k7⟩) (fun hHeld4 => ?_)
  clear hK K hHeld3
  try simp only [Act.put, List.setIfInBounds_toArray, List.set_cons_zero, List.set_cons_succ, List.getElem_toArray, List.getElem_cons_zero, List.getElem_cons_succ]
  refine wpAnyH_take (i := 6) (v := ?_) rfl (by kernel_rfl) (by kernel_rfl) (by kernel_rfl) (fun _ _ _ h => h) (Or.inl ⟨by rfl, ?_⟩) hHeld4 ?_
  rotate_left
  · intro w hSw
    have hSw1 := hSw
    clear hSw
    try dsimp only at hSw1
    go_simp
    try (with_reducible rfl)
  try simp only [Act.put, List.setIfInBounds_toArray, List.set_cons_zero, List.set_cons_succ, List.getElem_toArray, List.getElem_cons_zero, List.getElem_cons_succ]
  refine wpAnyH_done (by kernel_rfl) ?_ _
  go_wp2_with fail
  go_ret
  exact ⟨by (rw [HN.out]; try rfl), hHeld4.out.2⟩
end Go.Proofs.Ytdiacfbflbenoaa
