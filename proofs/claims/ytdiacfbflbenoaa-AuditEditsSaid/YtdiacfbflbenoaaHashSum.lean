/-
  Stream.Sum: the digest of what stands in a stream. Condition: at most 2^40 bytes.
-/
import Derived.Test.YtdiacfbflbenoaaHashStream
namespace Go.Proofs.Ytdiacfbflbenoaa
open Go.RowKit
set_option linter.unusedSimpArgs false
set_option linter.unusedVariables false

set_option maxHeartbeats 400000 in
theorem ssum_nil (w : World) : Calls Try.prog 50 #[.pointer none] w fun e w' => e = .returned (Str []) ∧ w = w' := by
  go_enter Try.func50, Try.ntmps50
  go_wp2
  refine bodyPost_ret (results_tmp rfl _ _ _) rfl ?_
  exact ⟨rfl, rfl⟩

/-- What stands in `end` at loop 1. -/
def endAt (m : List UInt8) (j : Nat) : List UInt8 := m.drop (64 * (m.length / 64)) ++ (128 :: List.replicate j 0)
theorem endAt_len (m : List UInt8) (j : Nat) : (endAt m j).length = m.length % 64 + 1 + j := by simp [endAt]; omega

/-- Byte `i`, the highest first, of a number. -/
def lb (n i : Nat) : UInt8 := UInt8.ofNat (n / 2 ^ (56 - 8 * i))
theorem lb_int (n i : Nat) (h : i < 8) : (n : Int) / 2 ^ (56 - 8 * i) % 256 = ((lb n i).toNat : Int) := by
  unfold lb
  rw [UInt8.toNat_ofNat']
  simp
theorem len8_take (n i : Nat) (h : i < 8) : (len8 n).take (i + 1) = (len8 n).take i ++ [lb n i] := by
  have : i = 0 ∨ i = 1 ∨ i = 2 ∨ i = 3 ∨ i = 4 ∨ i = 5 ∨ i = 6 ∨ i = 7 := by omega
  rcases this with rfl | rfl | rfl | rfl | rfl | rfl | rfl | rfl <;> simp [len8, lb]

theorem Step.inside {S S' S'' : List Nat} {w w1 w2 : World} (h : Step [] S' w w1) (k : Step S S'' w1 w2) (hs : ∀ g, g ∈ S → w.heap.size ≤ g) : Step [] [] w w2 :=
  ⟨k.os.trans h.os, k.tape.trans h.tape, k.output.trans h.output, Nat.le_trans h.size k.size, fun g hg _ => by
    have h1 := h.block g hg (by simp)
    have h2 := k.block g (Nat.lt_of_lt_of_le hg h.size) (fun hm => by have := hs g hm; omega)
    exact h2.trans h1, fun _ h => by cases h⟩

def lenOf (v : Value) : Nat := match v with
  | .slice _ n _ => n
  | _ => 0

theorem row_tail {w : World} {g off n cap : Nat} {l : List UInt8} (hr : Row w 1 (some ⟨g, off, none⟩) n cap (l.map bv)) (hn : 64 ≤ n) :
    Row w 1 (if cap = 64 then some ⟨g, off, none⟩ else some ⟨g, off + 64, none⟩) (n - 64) (cap - 64) ((l.drop 64).map bv) := by
  have hs := hr.sub 64 n hn (Nat.le_refl _)
  have e1 : ((l.map bv).drop (64 * 1)).take ((n - 64) * 1) = (l.drop 64).map bv := by
    have := hr.len
    rw [Nat.mul_one, Nat.mul_one, List.map_drop, List.take_of_length_le (by simp at this ⊢; omega)]
  have e2 : (if cap = 64 then some (⟨g, off, none⟩ : Addr) else (some (⟨g, off, none⟩ : Addr)).map (·.add (64 * 1))) = (if cap = 64 then some (⟨g, off, none⟩ : Addr) else some ⟨g, off + 64, none⟩) := by
    simp [addr_add]
  rw [e1, e2] at hs
  exact hs

theorem S8.bytes_flat (s : S8) : s.bytes = s.list.flatMap wdbytes := by simp [S8.bytes, S8.list]

theorem sha_of (m : List UInt8) : (comps (comps iv m (m.length / 64)) (endAt m (noughts m.length) ++ len8 (8 * m.length)) ((endAt m (noughts m.length) ++ len8 (8 * m.length)).length / 64)).bytes = sha m := by
  unfold sha
  have e1 : m ++ pad m.length = m.take (64 * (m.length / 64)) ++ (endAt m (noughts m.length) ++ len8 (8 * m.length)) := by
    have : endAt m (noughts m.length) ++ len8 (8 * m.length) = m.drop (64 * (m.length / 64)) ++ pad m.length := by simp [endAt, pad]
    rw [this, ← List.append_assoc, List.take_append_drop]
  have hl : (m.take (64 * (m.length / 64))).length = 64 * (m.length / 64) := by rw [List.length_take]; omega
  have e2 : comps iv m (m.length / 64) = comps iv (m.take (64 * (m.length / 64))) (m.length / 64) := by
    have := comps_app iv (m.take (64 * (m.length / 64))) (m.drop (64 * (m.length / 64))) (m.length / 64) (by omega)
    rwa [List.take_append_drop] at this
  rw [e1, e2, ← comps_add iv _ _ (m.length / 64) hl]
  congr 2
  have e3 := @List.length_append _ (m.take (64 * (m.length / 64))) (endAt m (noughts m.length) ++ len8 (8 * m.length))
  omega

set_option maxRecDepth 10000 in
set_option maxHeartbeats 2000000 in
theorem ssum_any (p : Nat) (S : List Nat) (m : List UInt8) (w : World) (h : St w p S m) :
    Calls Try.prog 50 #[.pointer (some ⟨p, 0, none⟩)] w fun e w' => e = .returned (Str (sha m)) ∧ Step [] [] w w' := by
  have hm : m.length ≤ 1099511627776 := by obtain ⟨_, _, _, _, _, _, _, h⟩ := h; exact h
  obtain ⟨a, cap, R, hR, c8, c9, H, h5⟩ := StG.open_ h
  clear h
  have HR := Lib.hid hR
  have hlR : R.length ≤ 64 := by rw [hR, List.length_drop]; omega
  clear hR
  obtain ⟨i0, hi, hz0, hz1, hz2⟩ := info_parts Try.info_bytes
  have HI := Lib.hid (And.intro hi (And.intro hz0 (And.intro hz1 hz2)))
  clear hi hz0 hz1 hz2
  go_enter Try.func50, Try.ntmps50
  have hpl := H.out.1.lt
  have hpw : p ≠ w.heap.size := by omega
  go_upto_block 0 with (first
    | (at_builtin; refine wpList_append_row rfl (.tmp 11) (.tmp 15) 26 26 rfl 5 i0 _ 1 1 Try.underlying26 HI.out.1 HI.out.2.1 HI.out.2.2.1 HI.out.2.2.2 rfl rfl (row_fresh w 5 [] (by simp)) rfl (Src.rd 26 5 Try.underlying26 (H.out.2.1.rd.alloc _) one_of_map) (by unfold maxLen; simp; omega) (by simp; omega) (by omega) ?_; intro a1 cap1 w1 hr1 hst1; simp only [List.length_nil, Nat.zero_add, List.nil_append] at hr1)
    | (at_builtin; go_loud (refine wpList_append_row rfl (.tmp 16) (.tmp 17) 26 26 rfl 5 i0 _ 1 1 Try.underlying26 HI.out.1 HI.out.2.1 HI.out.2.2.1 HI.out.2.2.2 rfl rfl (hr1.alloc _) rfl (Src.rd 26 5 Try.underlying26 (row_fresh w1 5 [bv 128] (by simp; unfold maxLen; omega)).rd (one_of_map (l := [128]))) (by unfold maxLen; simp; omega) (by simp; omega) (by omega) ?_); intro a2 cap2 w2 hr2 hst2))
  go_cut [3] (fun e wx => ∃ a cap n, n ≤ 200 ∧ e = .slice a n cap ∧ Hid (n = m.length % 64 + 1 + noughts m.length ∧ Row wx 1 a n cap ((endAt m (noughts m.length)).map bv) ∧ Step [] (blks a) w wx))
  case first =>
    have R0 : Hid (R.length + 1 = m.length % 64 + 1 + 0 ∧ Row w2 1 a2 (R.length + 1) cap2 ((endAt m 0).map bv) ∧ Step [] (blks a2) w w2) := by
      refine Lib.hid ⟨by rw [HR.out, List.length_drop]; omega, ?_, ((((Step.refl [] w).hold _).trans hst1).alloc _).trans hst2⟩
      rw [endAt, ← HR.out, List.map_append]
      exact hr2
    clear hr1 hr2 hst1 hst2
    go_wp2_with fail
    go_loopw [3] (fun e wr => ∃ j a cap n, j ≤ noughts m.length ∧ n ≤ 200 ∧ e = .slice a n cap ∧ Hid (n = m.length % 64 + 1 + j ∧ Row wr 1 a n cap ((endAt m j).map bv) ∧ Step [] (blks a) w wr))
      (fun e _ => 200 - lenOf e)
    case atStart => exact ⟨0, a2, cap2, _, by omega, by omega, rfl, R0⟩
    case round =>
      clear R0
      obtain ⟨j, a, cap, n, hj, hn, rfl, HW⟩ := hrel
      have hjn : noughts m.length < 64 := by unfold noughts; omega
      by_cases he : n % 64 = 56
      · have he' : (n : Int) % 64 = 56 := by omega
        have hj' : j = noughts m.length := by have := HW.out.1; unfold noughts at hj ⊢; omega
        clear he
        go_wp2_with fail
        go_meet
        case rel => 
          subst hj'
          exact ⟨_, _, _, hn, rfl, HW⟩
      · have he' : ¬ (n : Int) % 64 = 56 := by omega
        have hj' : j + 1 ≤ noughts m.length := by have := HW.out.1; unfold noughts at hj ⊢; omega
        clear he
        go_wp2_with ((at_builtin; refine wpList_append_row rfl (.tmp 23) (.tmp 24) 26 26 rfl 5 i0 _ 1 1 Try.underlying26 HI.out.1 HI.out.2.1 HI.out.2.2.1 HI.out.2.2.2 rfl rfl (HW.out.2.1.alloc _) rfl (Src.rd 26 5 Try.underlying26 (row_fresh wr 5 [bv 0] (by simp; unfold maxLen; omega)).rd (one_of_map (l := [0]))) (by unfold maxLen; omega) (by omega) (by omega) ?_; intro a3 cap3 w3 hr3 hst3))
        go_roundw
        case rel =>
          refine ⟨j + 1, a3, cap3, n + 1, hj', by have := HW.out.1; omega, rfl, by have := HW.out.1; omega, ?_, (HW.out.2.2.alloc _).trans hst3⟩
          have e : endAt m (j + 1) = endAt m j ++ [0] := by simp [endAt, List.replicate_succ']
          rw [e, List.map_append]
          exact hr3
        case measure => have := HW.out.1; simp only [lenOf]; omega
  case rest =>
    obtain ⟨a3, cap3, n3, hn3, rfl, HC⟩ := hcut
    clear hr1 hr2 hst1 hst2
    go_upto_block 2 with fail
    go_cut [3] (fun e wx => ∃ a cap n, n ≤ 300 ∧ e = .slice a n cap ∧ Hid (n = n3 + 8 ∧ Row wx 1 a n cap ((endAt m (noughts m.length) ++ len8 (8 * m.length)).map bv) ∧ Step [] (blks a) w wx))
    case first =>
      have z8 : IntKind.u64.wrap ((m.length : Int) * 8) = (m.length : Int) * 8 := IntWalk.u64_in _ (by omega)
      go_wp2_with fail
      go_loopw [3, 4] (fun e k wr => ∃ (i : Nat) (a : Option Addr) (cap n : Nat), i ≤ 8 ∧ n ≤ 300 ∧ e = .slice a n cap ∧ k = .int .i64 (56 - 8 * (i : Int)) ∧ Hid (n = n3 + i ∧ Row wr 1 a n cap ((endAt m (noughts m.length) ++ (len8 (8 * m.length)).take i).map bv) ∧ Step [] (blks a) w wr))
        (fun _ k _ => (intOf k + 8).toNat)
      case atStart => exact ⟨0, a3, cap3, n3, by omega, by omega, rfl, rfl, by omega, by simpa using HC.out.2.1, HC.out.2.2⟩
      case round =>
        obtain ⟨i, a, cap, n, hi, hn, rfl, rfl, HW⟩ := hrel
        by_cases hlt : i < 8
        · have hk0 : (0 : Int) ≤ 56 - 8 * (i : Int) := by omega
          have hby : (m.length : Int) * 8 / 2 ^ (56 - 8 * i) % 256 = ((lb (8 * m.length) i).toNat : Int) := by
            rw [← lb_int _ _ hlt]; congr 2; omega
          have d9 : wr.cell? ⟨p, 9, none⟩ = some (.int .u64 m.length) := HW.out.2.2.cell c9 (by simp)
          go_wp2_with (at_builtin; refine wpList_append_row rfl (.tmp 30) (.tmp 39) 26 26 rfl 5 i0 _ 1 1 Try.underlying26 HI.out.1 HI.out.2.1 HI.out.2.2.1 HI.out.2.2.2 rfl rfl (HW.out.2.1.alloc _) rfl (Src.rd 26 5 Try.underlying26 (row_fresh wr 5 [bv (lb (8 * m.length) i)] (by simp; unfold maxLen; omega)).rd (one_of_map (l := [lb (8 * m.length) i]))) (by unfold maxLen; omega) (by omega) (by omega) ?_; intro a4 cap4 w4 hr4 hst4)
          go_roundw
          case rel =>
            refine ⟨i + 1, a4, cap4, n + 1, by omega, by have := HW.out.1; omega, rfl, by go_num, by have := HW.out.1; omega, ?_, (HW.out.2.2.alloc _).trans hst4⟩
            rw [len8_take _ _ hlt, ← List.append_assoc, List.map_append]
            exact hr4
          case measure => simp [intOf]; omega
        · have hk0 : ¬ (0 : Int) ≤ 56 - 8 * (i : Int) := by omega
          go_wp2_with fail
          go_meet
          case rel =>
            obtain rfl : i = 8 := by omega
            exact ⟨_, _, _, hn, rfl, HW⟩
    case rest =>
      obtain ⟨a4, cap4, n4, hn4, rfl, HD⟩ := hcut
      clear c9
      have hpl2 : p < wc.heap.size := Nat.lt_of_lt_of_le hpl HD.out.2.2.size
      obtain ⟨T, hT⟩ : ∃ T, T = comps iv m (m.length / 64) := ⟨_, rfl⟩
      have hbp : Blk wc p 98 (T.vals ++ [Value.slice a R.length cap, Value.int .u64 m.length]).toArray := by rw [hT]; exact H.out.1.step HD.out.2.2 (by simp)
      have b0 : wc.cell? ⟨p, 0, none⟩ = some (.int .u32 (T.a.toNat : Int)) := hbp.cell 0
      have b1 : wc.cell? ⟨p, 1, none⟩ = some (.int .u32 (T.b.toNat : Int)) := hbp.cell 1
      have b2 : wc.cell? ⟨p, 2, none⟩ = some (.int .u32 (T.c.toNat : Int)) := hbp.cell 2
      have b3 : wc.cell? ⟨p, 3, none⟩ = some (.int .u32 (T.d.toNat : Int)) := hbp.cell 3
      have b4 : wc.cell? ⟨p, 4, none⟩ = some (.int .u32 (T.e.toNat : Int)) := hbp.cell 4
      have b5 : wc.cell? ⟨p, 5, none⟩ = some (.int .u32 (T.f.toNat : Int)) := hbp.cell 5
      have b6 : wc.cell? ⟨p, 6, none⟩ = some (.int .u32 (T.g.toNat : Int)) := hbp.cell 6
      have b7 : wc.cell? ⟨p, 7, none⟩ = some (.int .u32 (T.h.toNat : Int)) := hbp.cell 7
      have HT := Lib.hid hT
      clear hT hbp
      go_upto_block 4 with fail
      obtain ⟨E, hE⟩ : ∃ E, E = endAt m (noughts m.length) ++ len8 (8 * m.length) := ⟨_, rfl⟩
      have hEl : E.length = n4 := by rw [HD.out.1, hE, HC.out.1, List.length_append, endAt_len]; rfl
      have hE64 : E.length % 64 = 0 := by rw [hEl, HD.out.1, HC.out.1]; unfold noughts; omega
      go_cut [] (fun wx => Hid (Blk wx wc.heap.size 95 (comps T E (E.length / 64)).vals.toArray ∧ Step [] [] w wx))
      case first =>
        have R0 : Hid (n4 = E.length - 64 * 0 ∧ 64 * 0 ≤ E.length ∧ Row (wc.alloc (.cells T.vals.toArray 95)) 1 a4 n4 cap4 ((E.drop (64 * 0)).map bv) ∧ Blk (wc.alloc (.cells T.vals.toArray 95)) wc.heap.size 95 (comps T E 0).vals.toArray ∧ wc.heap.size ∉ blks a4 ∧ Step [] [] w (wc.alloc (.cells T.vals.toArray 95))) := by
          refine Lib.hid ⟨by omega, by omega, ?_, Blk.new _ _ _, fun hm => by have := HD.out.2.1.lt _ hm; omega, (HD.out.2.2.drop (by simp)).alloc _⟩
          rw [Nat.mul_zero, List.drop_zero, hE]
          exact HD.out.2.1.alloc _
        have hE' := Lib.hid (And.intro hE (And.intro hEl hE64))
        clear hE hEl hE64
        go_wp2_with fail
        go_loopw [3] (fun e wr => ∃ (k : Nat) (a : Option Addr) (cap n : Nat), n ≤ 300 ∧ n % 64 = 0 ∧ e = .slice a n cap ∧ Hid (n = E.length - 64 * k ∧ 64 * k ≤ E.length ∧ Row wr 1 a n cap ((E.drop (64 * k)).map bv) ∧ Blk wr wc.heap.size 95 (comps T E k).vals.toArray ∧ wc.heap.size ∉ blks a ∧ Step [] [] w wr))
          (fun e _ => lenOf e)
        case atStart => exact ⟨0, a4, cap4, n4, hn4, by rw [← hE'.out.2.1]; exact hE'.out.2.2, rfl, R0⟩
        case round =>
          clear R0
          obtain ⟨k, a, cap, n, hn, h64, rfl, HW⟩ := hrel
          by_cases hlt : 0 < n
          · have hn64 : 64 ≤ n := by omega
            have hn64' : (64 : Int) ≤ n := by omega
            have hc1 := HW.out.2.2.1.le
            have hc2 : 64 ≤ cap := by omega
            have hc3 : (64 : Int) ≤ cap := by omega
            obtain ⟨g, off, rfl⟩ := HW.out.2.2.1.some_of_pos (by omega)
            go_wp2_with fail
            have hlE : (E.drop (64 * k)).length = n := by rw [List.length_drop]; exact HW.out.1.symm
            have hrd : Rd wr 1 (some ⟨g, off, none⟩) 64 (((E.drop (64 * k)).take 64).map bv) := by
              have := (HW.out.2.2.1.rd.take 64 hn64)
              rwa [Nat.mul_one, ← List.map_take] at this
            refine (block_any wc.heap.size 95 (comps T E k) [] g off cap ((E.drop (64 * k)).take 64) wr (by simp; simp at hlE; omega) (by simpa using HW.out.2.2.2.1) hrd).mono ?_
            rintro e wy ⟨rfl, h8, s8⟩
            have H8 := Lib.hid (And.intro h8 s8)
            clear h8 s8 hrd
            go_wp2_with fail
            go_roundw
            case rel =>
              have hb : blks (if cap = 64 then some (⟨g, off, none⟩ : Addr) else some ⟨g, off + 64, none⟩) = [g] := by split <;> rfl
              have hg : wc.heap.size ≠ g := by have := HW.out.2.2.2.2.1; simpa [blks] using this
              have hr2 : Row wy 1 (some ⟨g, off, none⟩) n cap ((E.drop (64 * k)).map bv) := HW.out.2.2.1.step H8.out.2 (by simp [blks]; exact hg.symm)
              refine ⟨k + 1, _, _, _, by omega, by omega, rfl, by have := HW.out.1; omega, by have := HW.out.1; omega, ?_, ?_, by rw [hb]; simp [hg], HW.out.2.2.2.2.2.inside H8.out.2 (by intro g hg; simp at hg; rw [hg]; exact HD.out.2.2.size)⟩
              · have := row_tail hr2 hn64
                rw [List.drop_drop] at this
                exact this
              · rw [comps_next T E k HW.out.2.1]
                simpa using H8.out.1
            case measure => simp only [lenOf]; omega
          · obtain rfl : n = 0 := by omega
            go_wp2_with fail
            go_meet
            case rel => 
              have hk : k = E.length / 64 := by have := HW.out.1; have := HW.out.2.1; have := hE'.out.2.2; omega
              subst hk
              exact ⟨HW.out.2.2.2.1, HW.out.2.2.2.2.2⟩
      case rest =>
        rename World => W9
        have b9 := hcut.out.1
        obtain ⟨U, hU⟩ : ∃ U, U = comps T E (E.length / 64) := ⟨_, rfl⟩
        rw [← hU] at b9
        have q0 : W9.cell? ⟨wc.heap.size, 0, none⟩ = some (.int .u32 (U.a.toNat : Int)) := b9.cell 0
        have q1 : W9.cell? ⟨wc.heap.size, 1, none⟩ = some (.int .u32 (U.b.toNat : Int)) := b9.cell 1
        have q2 : W9.cell? ⟨wc.heap.size, 2, none⟩ = some (.int .u32 (U.c.toNat : Int)) := b9.cell 2
        have q3 : W9.cell? ⟨wc.heap.size, 3, none⟩ = some (.int .u32 (U.d.toNat : Int)) := b9.cell 3
        have q4 : W9.cell? ⟨wc.heap.size, 4, none⟩ = some (.int .u32 (U.e.toNat : Int)) := b9.cell 4
        have q5 : W9.cell? ⟨wc.heap.size, 5, none⟩ = some (.int .u32 (U.f.toNat : Int)) := b9.cell 5
        have q6 : W9.cell? ⟨wc.heap.size, 6, none⟩ = some (.int .u32 (U.g.toNat : Int)) := b9.cell 6
        have q7 : W9.cell? ⟨wc.heap.size, 7, none⟩ = some (.int .u32 (U.h.toNat : Int)) := b9.cell 7
        have HU := Lib.hid hU
        have HE := Lib.hid (And.intro hE (And.intro hEl hE64))
        clear hU hE hEl hE64 b9 b0 b1 b2 b3 b4 b5 b6 b7 c8
        go_upto_block 6 with fail
        go_cut [6] (fun e wx => ∃ (a : Option Addr) (cap : Nat), e = .slice a 32 cap ∧ Hid (Row wx 1 a 32 cap (U.bytes.map bv) ∧ Step [] [] w wx))
        case first =>
          have R0 : Hid (Row W9 1 none 0 0 ((U.list.take 0).flatMap wdbytes |>.map bv) ∧ Step [] (blks none) w W9) := Lib.hid ⟨Row.none _ _, hcut.out.2⟩
          clear q0 q1 q2 q3 q4 q5 q6 q7
          go_wp2_with fail
          go_loopw [6, 54] (fun e i wr => ∃ (k : Nat) (a : Option Addr) (cap n : Nat), k ≤ 8 ∧ n ≤ 32 ∧ i = .int .i64 k ∧ e = .slice a n cap ∧ Hid (n = 4 * k ∧ Row wr 1 a n cap (((U.list.take k).flatMap wdbytes).map bv) ∧ Step [] (blks a) w wr))
            (fun _ i _ => 8 - (intOf i).toNat)
          case atStart => exact ⟨0, none, 0, 0, by omega, by omega, rfl, rfl, by omega, R0.out.1, R0.out.2⟩
          case round =>
            clear R0
            obtain ⟨k, a, cap, n, hk, hn, rfl, rfl, HW⟩ := hrel
            by_cases hlt : k < 8
            · have hlt' : (k : Int) < 8 := by omega
              obtain ⟨x, hx⟩ : ∃ x, x = wat U.list k := ⟨_, rfl⟩
              have hck : (#[.int .u32 (U.a.toNat : Int), .int .u32 (U.b.toNat : Int), .int .u32 (U.c.toNat : Int), .int .u32 (U.d.toNat : Int), .int .u32 (U.e.toNat : Int), .int .u32 (U.f.toNat : Int), .int .u32 (U.g.toNat : Int), .int .u32 (U.h.toNat : Int)] : Array Value)[k]? = some (.int .u32 (x.toNat : Int)) := by
                show (U.list.map wv).toArray[k]? = _
                rw [List.getElem?_toArray, List.getElem?_map, S8.list_get U k hlt, hx]; rfl
              have HX := Lib.hid hx
              clear hx
              go_wp2_with fail
              rw [run_index_arr 95 70 8 (by kernel_rfl) (by kernel_rfl) (by kernel_rfl) _ k hlt _ hck]
              rw [Result.andThen_ok, Oper.upon_value]
              go_wp2_with (at_builtin; refine wpList_append_row rfl (.tmp 57) (.tmp 69) 26 26 rfl 5 i0 _ 1 1 Try.underlying26 HI.out.1 HI.out.2.1 HI.out.2.2.1 HI.out.2.2.2 rfl rfl (HW.out.2.1.alloc _) rfl (Src.rd 26 5 Try.underlying26 (row_fresh wr 5 ((wdbytes x).map bv) (by simp [wdbytes]; unfold maxLen; omega)).rd one_of_map) (by unfold maxLen; simp [wdbytes]; omega) (by simp [wdbytes]; omega) (by omega) ?_; intro a6 cap6 w6 hr6 hst6)
              go_roundw
              case rel =>
                refine ⟨k + 1, a6, cap6, n + 4, by omega, by have := HW.out.1; omega, by go_num, rfl, by have := HW.out.1; omega, ?_, (HW.out.2.2.alloc _).trans hst6⟩
                rw [List.take_add_one, S8.list_get U k hlt, List.flatMap_append, List.map_append]
                simpa [HX.out] using hr6
              case measure => simp [intOf]; omega
            · obtain rfl : k = 8 := by omega
              go_wp2_with fail
              go_meet
              case rel =>
                have hn := HW.out.1
                subst hn
                refine ⟨_, _, rfl, Lib.hid ⟨?_, HW.out.2.2.drop (by simp)⟩⟩
                rw [S8.bytes_flat]
                exact HW.out.2.1
        case rest =>
          obtain ⟨a5, cap5, rfl, HF⟩ := hcut
          go_wp2_with fail
          rw [run_str_of_row 26 9 5 Try.underlying26 Try.underlying5 Try.underlying9 HF.out.1]
          rw [Result.andThen_ok, Oper.upon_value]
          go_wp2_with fail
          refine bodyPost_ret (results_tmp rfl _ _ _) rfl ⟨?_, HF.out.2⟩
          rw [← sha_of m, ← HT.out, ← HE.out.1, ← HU.out]
          rfl
end Go.Proofs.Ytdiacfbflbenoaa
