/-
  The reference's Sum. Condition: at most 2^40 bytes.
-/
import Derived.Test.YtdiacfbflbenoaaHashRef
namespace Go.Proofs.Ytdiacfbflbenoaa
open Go.RowKit
set_option linter.unusedSimpArgs false
set_option linter.unusedVariables false

def padTo (s : List UInt8) (j : Nat) : List UInt8 := s ++ (128 :: List.replicate j 0)
theorem padTo_len (s : List UInt8) (j : Nat) : (padTo s j).length = s.length + 1 + j := by simp [padTo]; omega
theorem one_of_words {l : List Wd} : ∀ u ∈ l.map wv, u.oneCell' = true := by
  intro u hu
  obtain ⟨x, _, rfl⟩ := List.mem_map.1 hu
  rfl
theorem Try.info_words : (Try.prog.info? 70).map (fun i => (i.zero, i.size, i.bytes)) = some (some (.int .u32 0), 1, 4) := by kernel_rfl

/-- A word's first bytes, as the reference gathers them. -/
def pw (b : List UInt8) (t : Nat) : Nat → Wd
  | 0 => 0#32
  | j + 1 => wadd (wshl (pw b t j) 8) (wb (at8 b (4 * t + j)))
set_option maxRecDepth 100000 in
theorem or4 (a b c d : Nat) (hb : b < 256) (hc : c < 256) (hd : d < 256) : ((a * 16777216 ||| b * 65536) ||| c * 256) ||| d = a * 16777216 + b * 65536 + c * 256 + d := by
  have e1 : a * 16777216 ||| b * 65536 = (a * 256 + b) * 65536 := by
    have h := Nat.shiftLeft_add_eq_or_of_lt (a := a) (b := b * 65536) (i := 24) (by omega)
    rw [Nat.shiftLeft_eq] at h
    rw [show (2:Nat) ^ 24 = 16777216 by decide] at h
    rw [← h]
    clear h
    omega
  have e2 : (a * 256 + b) * 65536 ||| c * 256 = ((a * 256 + b) * 256 + c) * 256 := by
    have h := Nat.shiftLeft_add_eq_or_of_lt (a := a * 256 + b) (b := c * 256) (i := 16) (by omega)
    rw [Nat.shiftLeft_eq] at h
    rw [show (2:Nat) ^ 16 = 65536 by decide] at h
    rw [← h]
    clear h
    omega
  have e3 : ((a * 256 + b) * 256 + c) * 256 ||| d = ((a * 256 + b) * 256 + c) * 256 + d := by
    have h := Nat.shiftLeft_add_eq_or_of_lt (a := (a * 256 + b) * 256 + c) (b := d) (i := 8) (by omega)
    rw [Nat.shiftLeft_eq] at h
    rw [show (2:Nat) ^ 8 = 256 by decide] at h
    rw [← h]
  rw [e1, e2, e3]
  omega
theorem gather (a b c d : Nat) (ha : a < 256) (hb : b < 256) (hc : c < 256) (hd : d < 256) :
    ((((0#32 <<< 8 + BitVec.ofNat 32 a) <<< 8 + BitVec.ofNat 32 b) <<< 8 + BitVec.ofNat 32 c) <<< 8 + BitVec.ofNat 32 d) = (BitVec.ofNat 32 a <<< 24 ||| BitVec.ofNat 32 b <<< 16 ||| BitVec.ofNat 32 c <<< 8 ||| BitVec.ofNat 32 d) := by
  apply BitVec.eq_of_toNat_eq
  have h := or4 a b c d hb hc hd
  have m1 : ∀ x k, x < 256 → k ≤ 24 → (BitVec.ofNat 32 x <<< k).toNat = x * 2 ^ k := fun x k hx hk => by
    rw [BitVec.toNat_shiftLeft, BitVec.toNat_ofNat, Nat.mod_eq_of_lt (a := x) (by omega), Nat.shiftLeft_eq]
    have : 2 ^ k ≤ 2 ^ 24 := Nat.pow_le_pow_right (by omega) hk
    have h2 : x * 2 ^ k ≤ 255 * 2 ^ 24 := Nat.mul_le_mul (by omega) this
    exact Nat.mod_eq_of_lt (by omega)
  simp only [BitVec.toNat_or]
  rw [m1 a 24 ha (by omega), m1 b 16 hb (by omega), m1 c 8 hc (by omega), BitVec.toNat_ofNat, Nat.mod_eq_of_lt (a := d) (by omega)]
  rw [show (2:Nat) ^ 24 = 16777216 by decide, show (2:Nat) ^ 16 = 65536 by decide, show (2:Nat) ^ 8 = 256 by decide, h]
  simp only [BitVec.toNat_add, BitVec.toNat_shiftLeft, BitVec.toNat_ofNat, Nat.shiftLeft_eq]
  omega
theorem pw_word (b : List UInt8) (t : Nat) : pw b t 4 = word b t :=
  gather _ _ _ _ (at8 b (4 * t + 0)).toNat_lt (at8 b (4 * t + 1)).toNat_lt (at8 b (4 * t + 2)).toNat_lt (at8 b (4 * t + 3)).toNat_lt
theorem next_comm (p q r t : Wd) : wadd (wadd (wadd p q) r) t = wadd (wadd (wadd t r) q) p := by
  simp only [wadd]
  ac_rfl
theorem cell_alloc {w : World} {p : Addr} {v : Value} (h : w.cell? p = some v) (o : Obj) : (w.alloc o).cell? p = some v := by
  rw [World.cell?_alloc_some _ _ _ (by rw [h]; rfl), h]
theorem number_at (n size : Nat) (k l : Int) (hk : k = (n : Int)) (hl : l = (size : Int)) (hn : n < 18446744073709551616) (hs : 1 ≤ size) (hs8 : size ≤ 8) (w : World) :
    Calls Try.prog 35 #[.int .u64 k, .int .i64 l] w fun e w' => ∃ g, e = .returned (.slice (some ⟨g, 0, none⟩) size size) ∧ Rd w' 1 (some ⟨g, 0, none⟩) size ((numBytes n size).map bv) ∧ Step [] [] w w' := by
  subst hk hl; exact hnumber_any n size hn hs hs8 w

set_option maxRecDepth 100000 in
set_option maxHeartbeats 60000000 in
theorem refSum_any (s : List UInt8) (w : World) (hs : s.length ≤ 1099511627776) :
    Calls Try.prog 22 #[Str s] w fun e w' => e = .returned (Str (sha s)) ∧ Step [] [] w w' := by
  obtain ⟨i0, hi, hz0, hz1, hz2⟩ := info_parts Try.info_bytes
  have HI := Lib.hid (And.intro hi (And.intro hz0 (And.intro hz1 hz2)))
  clear hi hz0 hz1 hz2
  obtain ⟨i4, hi, hz0, hz1, hz2⟩ := info_parts Try.info_words
  have HJ := Lib.hid (And.intro hi (And.intro hz0 (And.intro hz1 hz2)))
  clear hi hz0 hz1 hz2
  go_enter Try.func22, Try.ntmps22
  go_wp2_with fail
  obtain ⟨g, cap, w1, hcv, hrow, hst, hg⟩ := run_row_of_str (P := Try.prog) (w := w) 9 26 5 s Try.underlying9 Try.underlying26 Try.underlying5 (by unfold maxLen; omega)
  rw [hcv, Result.andThen_ok, Oper.upon_value]
  have H1 := Lib.hid (And.intro hrow hst)
  clear hrow hst hcv hg
  go_upto_block 0 with (at_builtin; refine wpList_append_row rfl (.tmp 28) (.tmp 29) 26 26 rfl 5 i0 _ 1 1 Try.underlying26 HI.out.1 HI.out.2.1 HI.out.2.2.1 HI.out.2.2.2 rfl rfl (H1.out.1.alloc _) rfl (Src.rd 26 5 Try.underlying26 (row_fresh w1 5 [bv (128)] (by simp; unfold maxLen; omega)).rd (one_of_map (l := [128]))) (by unfold maxLen; omega) (by omega) (by omega) ?_; intro a2 cap2 w2 hr2 hst2)
  go_cut [3] (fun e wx => ∃ (a : Option Addr) (cap n : Nat), n ≤ 1099511628000 ∧ e = .slice a n cap ∧ Hid (n = s.length + 1 + noughts s.length ∧ Row wx 1 a n cap ((padTo s (noughts s.length)).map bv) ∧ Step [] (blks a) w wx))
  case first =>
    have R0 : Hid (s.length + 1 = s.length + 1 + 0 ∧ Row w2 1 a2 (s.length + 1) cap2 ((padTo s 0).map bv) ∧ Step [] (blks a2) w w2) := by
      refine Lib.hid ⟨rfl, ?_, (H1.out.2.alloc _).trans hst2⟩
      rw [padTo, List.map_append]
      exact hr2
    clear hr2 hst2
    go_wp2_with fail
    go_loopw [3] (fun e wr => ∃ (j : Nat) (a : Option Addr) (cap n : Nat), j ≤ noughts s.length ∧ n ≤ 1099511628000 ∧ e = .slice a n cap ∧ Hid (n = s.length + 1 + j ∧ Row wr 1 a n cap ((padTo s j).map bv) ∧ Step [] (blks a) w wr))
      (fun e _ => s.length + 100 - lenOf e)
    case atStart => exact ⟨0, a2, cap2, s.length + 1, by omega, by omega, rfl, rfl, R0.out.2⟩
    case round =>
      clear R0
      obtain ⟨j, a, cap, n, hj, hn, rfl, HW⟩ := hrel
      have hjn : noughts s.length < 64 := by unfold noughts; omega
      by_cases he : n % 64 = 56
      · have he' : (n : Int) % 64 = 56 := by omega
        have hj' : j = noughts s.length := by have := HW.out.1; unfold noughts at hj ⊢; omega
        clear he
        go_wp2_with fail
        go_meet
        case rel =>
          subst hj'
          exact ⟨_, _, _, hn, rfl, HW⟩
      · have he' : ¬ (n : Int) % 64 = 56 := by omega
        have hj' : j + 1 ≤ noughts s.length := by have := HW.out.1; unfold noughts at hj ⊢; omega
        clear he
        go_wp2_with (at_builtin; refine wpList_append_row rfl (.tmp 35) (.tmp 36) 26 26 rfl 5 i0 _ 1 1 Try.underlying26 HI.out.1 HI.out.2.1 HI.out.2.2.1 HI.out.2.2.2 rfl rfl (HW.out.2.1.alloc _) rfl (Src.rd 26 5 Try.underlying26 (row_fresh wr 5 [bv (0)] (by simp; unfold maxLen; omega)).rd (one_of_map (l := [0]))) (by unfold maxLen; omega) (by omega) (by omega) ?_; intro a3 cap3 w3 hr3 hst3)
        go_roundw
        case rel =>
          refine ⟨j + 1, a3, cap3, n + 1, hj', by have := HW.out.1; omega, rfl, by have := HW.out.1; omega, ?_, (HW.out.2.2.alloc _).trans hst3⟩
          have e : padTo s (j + 1) = padTo s j ++ [0] := by simp [padTo, List.replicate_succ']
          rw [e, List.map_append]
          exact hr3
        case measure => have := HW.out.1; simp only [lenOf]; omega
  case rest =>
    obtain ⟨a3, cap3, n3, hn3, rfl, HC⟩ := hcut
    clear hr2 hst2
    have z8 : IntKind.u64.wrap (8 * (s.length : Int)) = ((8 * s.length : Nat) : Int) := by rw [IntWalk.u64_in _ (by omega)]; omega
    go_wp2_with fail
    refine (number_at (8 * s.length) 8 _ _ (by omega) rfl (by omega) (by omega) (by omega) _).mono ?_
    rintro e w4 ⟨g4, rfl, r4, k4⟩
    have H4 := Lib.hid (And.intro r4 k4)
    clear r4 k4
    go_upto_region 5 with (at_builtin; refine wpList_append_row rfl (.tmp 38) (.tmp 43) 26 26 rfl 5 i0 _ 1 1 Try.underlying26 HI.out.1 HI.out.2.1 HI.out.2.2.1 HI.out.2.2.2 rfl rfl (HC.out.2.1.step H4.out.2 (by simp)) rfl (Src.rd 26 5 Try.underlying26 H4.out.1 one_of_map) (by unfold maxLen; omega) (by omega) (by omega) ?_; intro a5 cap5 w5 hr5 hst5)
    obtain ⟨E, hE⟩ : ∃ E, E = s ++ pad s.length := ⟨_, rfl⟩
    have hEl : E.length = n3 + 8 := by rw [hE, List.length_append, HC.out.1]; simp [pad, len8]; omega
    have hE64 : E.length % 64 = 0 := by rw [hE, List.length_append]; exact pad_len s.length
    have R5 : Hid (Row w5 1 a5 (n3 + 8) cap5 (E.map bv) ∧ Step [] [] w w5) := by
      refine Lib.hid ⟨?_, (((HC.out.2.2.trans (H4.out.2.keep _)).trans hst5)).drop (by simp)⟩
      have e : padTo s (noughts s.length) ++ numBytes (8 * s.length) 8 = E := by rw [hE, numBytes_8, padTo, pad]; simp
      rw [← e, List.map_append]
      exact hr5
    clear hr5 hst5
    have HE := Lib.hid (And.intro hE (And.intro hEl hE64))
    clear hE hEl hE64
    have hbE : E.length ≤ 1099511629000 := by rw [HE.out.2.1]; omega
    go_wp2_with fail
    refine (constants_any _).mono ?_
    rintro e w6 ⟨rfl, r6, k6⟩
    have H6 : Hid (Rd w6 1 a5 (n3 + 8) (E.map bv) ∧ Rd w6 1 (some ⟨w5.heap.size, 0, none⟩) 8 iv.vals ∧ Rd w6 1 (some ⟨w5.heap.size + 1, 0, none⟩) 64 (kc.map wv) ∧ Step [] [] w w6) := by
      refine Lib.hid ⟨((R5.out.1.rd.alloc _).step k6 (by simp)), ((row_fresh w5 70 iv.vals (by rw [S8.vals_len]; unfold maxLen; omega)).rd.step k6 (by simp)), ?_, (R5.out.2.alloc _).trans k6⟩
      simpa using r6
    clear r6 k6
    go_upto_block 2 with fail
    go_cut [4] (fun h wx => ∃ (a : Option Addr) (cap : Nat), h = .slice a 8 cap ∧ Hid (Rd wx 1 a 8 (comps iv E (E.length / 64)).vals ∧ Step [] [] w wx))
    case first =>
      go_wp2_with fail
      go_loopw [4, 6] (fun h i wr => ∃ (k : Nat) (a : Option Addr) (cap : Nat), 64 * k ≤ E.length ∧ i = .int .i64 (64 * (k : Int)) ∧ h = .slice a 8 cap ∧ Hid (Rd wr 1 a5 (n3 + 8) (E.map bv) ∧ Rd wr 1 a 8 (comps iv E k).vals ∧ Rd wr 1 (some ⟨w5.heap.size + 1, 0, none⟩) 64 (kc.map wv) ∧ Step [] [] w wr))
        (fun _ i _ => E.length - (intOf i).toNat)
      case atStart => exact ⟨0, _, 8, by omega, rfl, rfl, H6.out⟩
      case round =>
        rename World => V
        obtain ⟨k, a, cap, hk, rfl, rfl, HV⟩ := hrel
        by_cases hlt : 64 * k < E.length
        · have hfull : 64 * k + 64 ≤ E.length := by have := HE.out.2.2; omega
          have hln : E.length = n3 + 8 := HE.out.2.1
          have hlt' : 64 * (k : Int) < (n3 : Int) + 8 := by omega
          obtain ⟨b, hb⟩ : ∃ b, b = (E.drop (64 * k)).take 64 := ⟨_, rfl⟩
          have hbl : b.length = 64 := by rw [hb, List.length_take, List.length_drop]; omega
          have hat : ∀ j, j < 64 → E[64 * k + j]? = some (at8 b j) := fun j hj => by
            have h1 : b[j]? = E[64 * k + j]? := by rw [hb, List.getElem?_take, if_pos hj, List.getElem?_drop]
            rw [← h1]; exact at8_eq b j (by omega)
          have HB := Lib.hid (And.intro hb (And.intro hbl hat))
          clear hb hbl hat
          obtain ⟨ge, oe, rfl⟩ := HV.out.1.some_ (by omega)
          obtain ⟨gh, oh, rfl⟩ := HV.out.2.1.some_ (by omega)
          go_upto_block 4 with fail
          go_cut [7] (fun v wx => ∃ (a : Option Addr) (cap : Nat), v = .slice a 16 cap ∧ Hid (Row wx 1 a 16 cap ((words b).map wv) ∧ Step [] (blks a) V wx))
          case first => as_aux_lemma =>
            have R0 : Hid (Row (V.alloc (.cells #[] 70)) 1 (some ⟨V.heap.size, 0, none⟩) 0 0 (((words b).take 0).map wv) ∧ Step [] (blks (some ⟨V.heap.size, 0, none⟩)) V (V.alloc (.cells #[] 70))) := Lib.hid ⟨row_fresh V 70 [] (by simp), (Step.refl [] V).hold _⟩
            go_wp2_with fail
            go_loopw [7, 8] (fun v i wr => ∃ (t : Nat) (a : Option Addr) (cap : Nat), t ≤ 16 ∧ i = .int .i64 t ∧ v = .slice a t cap ∧ Hid (Row wr 1 a t cap (((words b).take t).map wv) ∧ Step [] (blks a) V wr))
              (fun _ i _ => 16 - (intOf i).toNat)
            case atStart => exact ⟨0, _, 0, by omega, rfl, rfl, R0.out⟩
            case round =>
              clear R0
              obtain ⟨t, aw, capw, ht, rfl, rfl, HW⟩ := hrel
              by_cases hlt2 : t < 16
              · have hlt2' : (t : Int) < 16 := by omega
                go_upto_block 6 with fail
                go_cut [9] (fun x wx => x = .int .u32 ((word b t).toNat : Int) ∧ Hid (Row wx 1 aw t capw (((words b).take t).map wv) ∧ Step [] (blks aw) V wx))
                case first => as_aux_lemma =>
                  go_wp2_with fail
                  go_loopw [9, 10] (fun x i wr => ∃ (j : Nat), j ≤ 4 ∧ i = .int .i64 j ∧ x = .int .u32 ((pw b t j).toNat : Int) ∧ Hid (Row wr 1 aw t capw (((words b).take t).map wv) ∧ Step [] (blks aw) V wr))
                    (fun _ i _ => 4 - (intOf i).toNat)
                  case atStart => exact ⟨0, by omega, rfl, rfl, HW.out⟩
                  case round =>
                    obtain ⟨j, hj, rfl, rfl, HX⟩ := hrel
                    by_cases hlt3 : j < 4
                    · have hlt3' : (j : Int) < 4 := by omega
                      have z1 : IntKind.i64.wrap (4 * (t : Int)) = 4 * (t : Int) := IntWalk.i64_in _ (by omega)
                      have z2 : IntKind.i64.wrap (64 * (k : Int) + 4 * (t : Int)) = 64 * (k : Int) + 4 * (t : Int) := IntWalk.i64_in _ (by omega)
                      have z3 : IntKind.i64.wrap (64 * (k : Int) + 4 * (t : Int) + (j : Int)) = 64 * (k : Int) + 4 * (t : Int) + (j : Int) := IntWalk.i64_in _ (by omega)
                      have y1 : (0 : Int) ≤ 64 * (k : Int) + 4 * (t : Int) + (j : Int) := by omega
                      have y2 : 64 * (k : Int) + 4 * (t : Int) + (j : Int) < (n3 : Int) + 8 := by omega
                      have y3 : (64 * (k : Int) + 4 * (t : Int) + (j : Int)).toNat = 64 * k + (4 * t + j) := by omega
                      have cx : wr.cell? ⟨ge, oe + (64 * k + (4 * t + j)), none⟩ = some (.int .u8 ((at8 b (4 * t + j)).toNat : Int)) := by
                        have h1 := (HV.out.1.step HX.out.2 (by simp)).cell ge oe none rfl (64 * k + (4 * t + j)) (bv (at8 b (4 * t + j))) (by rw [List.getElem?_map, HB.out.2.2 _ (by omega)]; rfl)
                        exact h1
                      go_wp2_with fail
                      go_roundw
                      case rel => exact ⟨j + 1, by omega, by go_num, rfl, HX⟩
                      case measure => simp [intOf]; omega
                    · obtain rfl : j = 4 := by omega
                      go_wp2_with fail
                      go_meet
                      case rel => exact ⟨by rw [pw_word], HX⟩
                case rest =>
                  rename World => X1
                  obtain ⟨rfl, HX⟩ := hcut
                  go_wp2_with (at_builtin; refine wpList_append_row rfl (.tmp 75) (.tmp 77) 71 71 rfl 70 i4 _ 1 4 Try.underlying71 HJ.out.1 HJ.out.2.1 HJ.out.2.2.1 HJ.out.2.2.2 rfl rfl (HX.out.1.alloc _) rfl (Src.rd 71 70 Try.underlying71 (row_fresh X1 70 [wv (word b t)] (by simp; unfold maxLen; omega)).rd (one_of_words (l := [word b t]))) (by unfold maxLen; omega) (by omega) (by omega) ?_; intro a6 cap6 w7 hr7 hst7)
                  go_roundw
                  case rel =>
                    refine ⟨t + 1, a6, cap6, by omega, by go_num, rfl, ?_, (HX.out.2.alloc _).trans hst7⟩
                    rw [List.take_add_one, words_get b t hlt2, List.map_append]
                    exact hr7
                  case measure => simp [intOf]; omega
              · obtain rfl : t = 16 := by omega
                go_wp2_with fail
                go_meet
                case rel =>
                  refine ⟨aw, capw, rfl, ?_⟩
                  rw [List.take_of_length_le (by rw [words_len]; exact Nat.le_refl _)] at HW
                  exact HW
          case rest =>
            rename World => V1
            obtain ⟨aw, capw, rfl, HV1⟩ := hcut
            go_upto_block 8 with fail
            go_cut [7] (fun v wx => ∃ (g off cap : Nat), v = .slice (some ⟨g, off, none⟩) 64 cap ∧ Hid (Rd wx 1 (some ⟨g, off, none⟩) 64 ((sched b 48).map wv) ∧ Step [] [] V wx))
            case first => as_aux_lemma =>
              have R0 : Hid (Row V1 1 aw 16 capw ((sched b 0).map wv) ∧ Step [] (blks aw) V V1) := HV1
              go_wp2_with fail
              go_loopw [7, 11] (fun v i wr => ∃ (t : Nat) (a : Option Addr) (cap : Nat), 16 ≤ t ∧ t ≤ 64 ∧ i = .int .i64 t ∧ v = .slice a t cap ∧ Hid (Row wr 1 a t cap ((sched b (t - 16)).map wv) ∧ Step [] (blks a) V wr))
                (fun _ i _ => 64 - (intOf i).toNat)
              case atStart => exact ⟨16, _, capw, by omega, by omega, rfl, rfl, R0.out⟩
              case round =>
                clear R0
                obtain ⟨n, a, cap, hn1, hn2, rfl, rfl, HW⟩ := hrel
                obtain ⟨gw, ow, rfl⟩ := HW.out.1.some_of_pos (by omega)
                by_cases hlt : n < 64
                · have hll := sched_len b (n - 16)
                  have cb : ∀ j, j < n → wr.cell? ⟨gw, ow + j, none⟩ = some (.int .u32 ((wat (sched b (n - 16)) j).toNat : Int)) := by
                    intro j hj
                    exact HW.out.1.rd.cell gw ow none rfl j _ (by rw [List.getElem?_map, wat_eq _ j (by rw [hll]; omega)]; rfl)
                  have HLL := Lib.hid hll
                  have c0 := cb (n - 16) (by omega)
                  have c1 := cb (n - 15) (by omega)
                  have c2 := cb (n - 7) (by omega)
                  have c3 := cb (n - 2) (by omega)
                  clear cb hll
                  have z0 : IntKind.i64.wrap ((n : Int) - 16) = (n : Int) - 16 := IntWalk.i64_in _ (by omega)
                  have z1 : IntKind.i64.wrap ((n : Int) - 15) = (n : Int) - 15 := IntWalk.i64_in _ (by omega)
                  have z2 : IntKind.i64.wrap ((n : Int) - 7) = (n : Int) - 7 := IntWalk.i64_in _ (by omega)
                  have z3 : IntKind.i64.wrap ((n : Int) - 2) = (n : Int) - 2 := IntWalk.i64_in _ (by omega)
                  have y0 : (16 : Int) ≤ (n : Int) := by omega
                  have y15 : (15 : Int) ≤ (n : Int) := by omega
                  have y7 : (7 : Int) ≤ (n : Int) := by omega
                  have y2' : (2 : Int) ≤ (n : Int) := by omega
                  have y1 : (0 : Int) ≤ (n : Int) - 15 := by omega
                  have y2 : (0 : Int) ≤ (n : Int) - 7 := by omega
                  have y3 : (0 : Int) ≤ (n : Int) - 2 := by omega
                  have y4 : (0 : Int) ≤ (n : Int) - 16 := by omega
                  have t0 : ((n : Int) - 16).toNat = n - 16 := by omega
                  have t1 : ((n : Int) - 15).toNat = n - 15 := by omega
                  have t2 : ((n : Int) - 7).toNat = n - 7 := by omega
                  have t3 : ((n : Int) - 2).toNat = n - 2 := by omega
                  have v0 : (n : Int) - 16 < n := by omega
                  have v1 : (n : Int) - 15 < n := by omega
                  have v2 : (n : Int) - 7 < n := by omega
                  have v3 : (n : Int) - 2 < n := by omega
                  have x64 : (n : Int) < 64 := by omega
                  obtain ⟨x0, hx0⟩ : ∃ x0, x0 = wat (sched b (n - 16)) (n - 16) := ⟨_, rfl⟩
                  obtain ⟨x1, hx1⟩ : ∃ x1, x1 = wat (sched b (n - 16)) (n - 15) := ⟨_, rfl⟩
                  obtain ⟨x2, hx2⟩ : ∃ x2, x2 = wat (sched b (n - 16)) (n - 7) := ⟨_, rfl⟩
                  obtain ⟨x3, hx3⟩ : ∃ x3, x3 = wat (sched b (n - 16)) (n - 2) := ⟨_, rfl⟩
                  rw [← hx0] at c0
                  rw [← hx1] at c1
                  rw [← hx2] at c2
                  rw [← hx3] at c3
                  have HX := Lib.hid (And.intro hx0 (And.intro hx1 (And.intro hx2 hx3)))
                  clear hx0 hx1 hx2 hx3
                  go_wp2_with fail
                  refine wp_region_quiet_lit (by as_aux_lemma => kernel_rfl) (by as_aux_lemma => kernel_rfl) ?_
                  go_big_quiet_step (fail)
                  go_big_quiet_step (fail)
                  go_big_quiet_step (fail)
                  go_big_quiet_step (fail)
                  go_big_quiet_step (fail)
                  go_big_quiet_step (with_reducible exact quiet_o (turn17 _))
                  go_big_quiet_step (fail)
                  go_big_quiet_step (fail)
                  go_big_quiet_step (fail)
                  go_big_quiet_step (fail)
                  go_big_quiet_step (fail)
                  go_big_quiet_step (with_reducible exact quiet_o (turn19 _))
                  repeat go_big_quiet_step (fail)
                  refine wpQuiet_nil ?_
                  intro W2 hw'
                  obtain ⟨nq2, hW2⟩ := hw'
                  have d0 := cell_drewN hW2 c0
                  have d1 := cell_drewN hW2 c1
                  have d2 := cell_drewN hW2 c2
                  have HW2 := Lib.hid hW2
                  clear hW2 c0 c1 c2 c3
                  go_wp2_with fail
                  refine wp_region_quiet_lit (by as_aux_lemma => kernel_rfl) (by as_aux_lemma => kernel_rfl) ?_
                  go_big_quiet_step (fail)
                  go_big_quiet_step (fail)
                  go_big_quiet_step (fail)
                  go_big_quiet_step (fail)
                  go_big_quiet_step (fail)
                  go_big_quiet_step (with_reducible exact quiet_o (turn7 _))
                  go_big_quiet_step (fail)
                  go_big_quiet_step (fail)
                  go_big_quiet_step (fail)
                  go_big_quiet_step (fail)
                  go_big_quiet_step (fail)
                  go_big_quiet_step (with_reducible exact quiet_o (turn18 _))
                  repeat go_big_quiet_step (fail)
                  refine wpQuiet_nil ?_
                  intro W3 hw'
                  obtain ⟨nq3, hW3⟩ := hw'
                  have e0 := cell_drewN hW3 d0
                  have e2 := cell_drewN hW3 d2
                  have HW3 := Lib.hid hW3
                  clear hW3 d0 d1 d2
                  go_wp2_with fail
                  have R3 : Hid (Row W3.drew 1 (some ⟨gw, ow, none⟩) n cap ((sched b (n - 16)).map wv) ∧ Step [] [gw] V W3.drew) := by
                    have h1 : Step [] [] wr W3 := by rw [HW3.out, HW2.out]; exact ((Step.refl [] wr).drewN _).drewN _
                    exact Lib.hid ⟨(HW.out.1.step h1 (by simp)).drew, (HW.out.2.trans (h1.keep _)).drew⟩
                  refine wp_region_held_drew (S := fun w => w.cell? ⟨gw, ow + (n - 7), none⟩ = some (.int .u32 (x2.toNat : Int)) ∧ w.cell? ⟨gw, ow + (n - 16), none⟩ = some (.int .u32 (x0.toNat : Int))) (by as_aux_lemma => kernel_rfl) (⟨e2, e0⟩) (fun hHeld => ?_)
                  refine wpAnyH_take (i := 0) (v := ?_) rfl (by as_aux_lemma => kernel_rfl) (by as_aux_lemma => kernel_rfl) (by as_aux_lemma => kernel_rfl) (fun _ _ _ h => h) (Or.inl ⟨by rfl, ?_⟩) hHeld ?_
                  rotate_left
                  · intro w hSw
                    have hSw1 := hSw
                    clear hSw
                    try dsimp only at hSw1
                    go_simp
                    try (with_reducible rfl)
                  try simp only [Act.put, List.setIfInBounds_toArray, List.set_cons_zero, List.set_cons_succ, List.getElem_toArray, List.getElem_cons_zero, List.getElem_cons_succ]
                  refine wpAnyH_take (i := 1) (v := ?_) rfl (by as_aux_lemma => kernel_rfl) (by as_aux_lemma => kernel_rfl) (by as_aux_lemma => kernel_rfl) (fun _ _ _ h => h) (Or.inl ⟨by rfl, ?_⟩) hHeld ?_
                  rotate_left
                  · intro w hSw
                    have hSw1 := hSw
                    clear hSw
                    try dsimp only at hSw1
                    go_simp
                    try (with_reducible rfl)
                  try simp only [Act.put, List.setIfInBounds_toArray, List.set_cons_zero, List.set_cons_succ, List.getElem_toArray, List.getElem_cons_zero, List.getElem_cons_succ]
                  refine wpAnyH_take (i := 2) (v := ?_) rfl (by as_aux_lemma => kernel_rfl) (by as_aux_lemma => kernel_rfl) (by as_aux_lemma => kernel_rfl) (fun _ _ _ h => h) (Or.inl ⟨by rfl, ?_⟩) hHeld ?_
                  rotate_left
                  · intro w hSw
                    have hSw1 := hSw
                    clear hSw
                    try dsimp only at hSw1
                    go_simp
                    try (with_reducible rfl)
                  try simp only [Act.put, List.setIfInBounds_toArray, List.set_cons_zero, List.set_cons_succ, List.getElem_toArray, List.getElem_cons_zero, List.getElem_cons_succ]
                  refine wpAnyH_take (i := 3) (v := ?_) rfl (by as_aux_lemma => kernel_rfl) (by as_aux_lemma => kernel_rfl) (by as_aux_lemma => kernel_rfl) (fun _ _ _ h => h) (Or.inl ⟨by rfl, ?_⟩) hHeld ?_
                  rotate_left
                  · intro w hSw
                    have hSw1 := hSw
                    clear hSw
                    try dsimp only at hSw1
                    go_simp
                    try (with_reducible rfl)
                  try simp only [Act.put, List.setIfInBounds_toArray, List.set_cons_zero, List.set_cons_succ, List.getElem_toArray, List.getElem_cons_zero, List.getElem_cons_succ]
                  refine wpAnyH_take (i := 4) (v := ?_) rfl (by as_aux_lemma => kernel_rfl) (by as_aux_lemma => kernel_rfl) (by as_aux_lemma => kernel_rfl) (fun _ _ _ h => h) (Or.inl ⟨by rfl, ?_⟩) hHeld ?_
                  rotate_left
                  · intro w hSw
                    have hSw1 := hSw
                    clear hSw
                    try dsimp only at hSw1
                    go_simp
                    try (with_reducible rfl)
                  try simp only [Act.put, List.setIfInBounds_toArray, List.set_cons_zero, List.set_cons_succ, List.getElem_toArray, List.getElem_cons_zero, List.getElem_cons_succ]
                  refine wpAnyH_take (i := 5) (v := ?_) rfl (by as_aux_lemma => kernel_rfl) (by as_aux_lemma => kernel_rfl) (by as_aux_lemma => kernel_rfl) (fun _ _ _ h => h) (Or.inl ⟨by rfl, ?_⟩) hHeld ?_
                  rotate_left
                  · intro w hSw
                    have hSw1 := hSw
                    clear hSw
                    try dsimp only at hSw1
                    go_simp
                    try (with_reducible rfl)
                  try simp only [Act.put, List.setIfInBounds_toArray, List.set_cons_zero, List.set_cons_succ, List.getElem_toArray, List.getElem_cons_zero, List.getElem_cons_succ]
                  refine wpAnyH_take (i := 6) (v := ?_) rfl (by as_aux_lemma => kernel_rfl) (by as_aux_lemma => kernel_rfl) (by as_aux_lemma => kernel_rfl) (fun _ _ _ h => h) (Or.inl ⟨by rfl, ?_⟩) hHeld ?_
                  rotate_left
                  · intro w hSw
                    have hSw1 := hSw
                    clear hSw
                    try dsimp only at hSw1
                    go_simp
                    try (with_reducible rfl)
                  try simp only [Act.put, List.setIfInBounds_toArray, List.set_cons_zero, List.set_cons_succ, List.getElem_toArray, List.getElem_cons_zero, List.getElem_cons_succ]
                  refine wpAnyH_take (i := 7) (v := ?_) rfl (by as_aux_lemma => kernel_rfl) (by as_aux_lemma => kernel_rfl) (by as_aux_lemma => kernel_rfl) (fun _ _ _ h => h) (Or.inl ⟨by rfl, ?_⟩) hHeld ?_
                  rotate_left
                  · intro w hSw
                    have hSw1 := hSw
                    clear hSw
                    try dsimp only at hSw1
                    go_simp
                    try (with_reducible rfl)
                  try simp only [Act.put, List.setIfInBounds_toArray, List.set_cons_zero, List.set_cons_succ, List.getElem_toArray, List.getElem_cons_zero, List.getElem_cons_succ]
                  refine wpAnyH_take (i := 8) (v := ?_) rfl (by as_aux_lemma => kernel_rfl) (by as_aux_lemma => kernel_rfl) (by as_aux_lemma => kernel_rfl) (fun _ _ _ h => h) (Or.inl ⟨by rfl, ?_⟩) hHeld ?_
                  rotate_left
                  · intro w hSw
                    have hSw1 := hSw
                    clear hSw
                    try dsimp only at hSw1
                    go_simp
                    try (with_reducible rfl)
                  try simp only [Act.put, List.setIfInBounds_toArray, List.set_cons_zero, List.set_cons_succ, List.getElem_toArray, List.getElem_cons_zero, List.getElem_cons_succ]
                  refine wpAnyH_take (i := 9) (v := ?_) rfl (by as_aux_lemma => kernel_rfl) (by as_aux_lemma => kernel_rfl) (by as_aux_lemma => kernel_rfl) (fun _ _ _ h => h) (Or.inl ⟨by rfl, ?_⟩) hHeld ?_
                  rotate_left
                  · intro w hSw
                    have hSw1 := hSw
                    clear hSw
                    try dsimp only at hSw1
                    go_simp
                    try (with_reducible rfl)
                  try simp only [Act.put, List.setIfInBounds_toArray, List.set_cons_zero, List.set_cons_succ, List.getElem_toArray, List.getElem_cons_zero, List.getElem_cons_succ]
                  refine wpAnyH_take (i := 10) (v := ?_) rfl (by as_aux_lemma => kernel_rfl) (by as_aux_lemma => kernel_rfl) (by as_aux_lemma => kernel_rfl) (fun _ _ _ h => h) (Or.inl ⟨by rfl, ?_⟩) hHeld ?_
                  rotate_left
                  · intro w hSw
                    have hSw1 := hSw
                    clear hSw
                    try dsimp only at hSw1
                    go_simp
                    try (with_reducible rfl)
                  try simp only [Act.put, List.setIfInBounds_toArray, List.set_cons_zero, List.set_cons_succ, List.getElem_toArray, List.getElem_cons_zero, List.getElem_cons_succ]
                  refine wpAnyH_take (i := 11) (v := ?_) rfl (by as_aux_lemma => kernel_rfl) (by as_aux_lemma => kernel_rfl) (by as_aux_lemma => kernel_rfl) (fun _ _ _ h => h) (Or.inl ⟨by rfl, ?_⟩) hHeld ?_
                  rotate_left
                  · intro w hSw
                    have hSw1 := hSw
                    clear hSw
                    try dsimp only at hSw1
                    go_simp
                    try (with_reducible rfl)
                  try simp only [Act.put, List.setIfInBounds_toArray, List.set_cons_zero, List.set_cons_succ, List.getElem_toArray, List.getElem_cons_zero, List.getElem_cons_succ]
                  refine wpAnyH_take (i := 12) (v := ?_) rfl (by as_aux_lemma => kernel_rfl) (by as_aux_lemma => kernel_rfl) (by as_aux_lemma => kernel_rfl) (fun _ _ _ h => h) (Or.inl ⟨by rfl, ?_⟩) hHeld ?_
                  rotate_left
                  · intro w hSw
                    have hSw1 := hSw
                    clear hSw
                    try dsimp only at hSw1
                    go_simp
                    try (with_reducible rfl)
                  try simp only [Act.put, List.setIfInBounds_toArray, List.set_cons_zero, List.set_cons_succ, List.getElem_toArray, List.getElem_cons_zero, List.getElem_cons_succ]
                  refine wpAnyH_take (i := 13) (v := ?_) rfl (by as_aux_lemma => kernel_rfl) (by as_aux_lemma => kernel_rfl) (by as_aux_lemma => kernel_rfl) (fun _ _ _ h => h) (Or.inl ⟨by rfl, ?_⟩) hHeld ?_
                  rotate_left
                  · intro w hSw
                    have hSw1 := hSw
                    clear hSw
                    try dsimp only at hSw1
                    go_simp
                    try (with_reducible rfl)
                  try simp only [Act.put, List.setIfInBounds_toArray, List.set_cons_zero, List.set_cons_succ, List.getElem_toArray, List.getElem_cons_zero, List.getElem_cons_succ]
                  refine wpAnyH_take (i := 14) (v := ?_) rfl (by as_aux_lemma => kernel_rfl) (by as_aux_lemma => kernel_rfl) (by as_aux_lemma => kernel_rfl) (fun _ _ _ h => h) (Or.inl ⟨by rfl, ?_⟩) hHeld ?_
                  rotate_left
                  · intro w hSw
                    have hSw1 := hSw
                    clear hSw
                    try dsimp only at hSw1
                    go_simp
                    try (with_reducible rfl)
                  try simp only [Act.put, List.setIfInBounds_toArray, List.set_cons_zero, List.set_cons_succ, List.getElem_toArray, List.getElem_cons_zero, List.getElem_cons_succ]
                  refine wpAnyH_take (i := 15) (v := ?_) rfl (by as_aux_lemma => kernel_rfl) (by as_aux_lemma => kernel_rfl) (by as_aux_lemma => kernel_rfl) (fun _ _ _ h => h) (Or.inl ⟨by rfl, ?_⟩) hHeld ?_
                  rotate_left
                  · intro w hSw
                    have hSw1 := hSw
                    clear hSw
                    try dsimp only at hSw1
                    go_simp
                    try (with_reducible rfl)
                  try simp only [Act.put, List.setIfInBounds_toArray, List.set_cons_zero, List.set_cons_succ, List.getElem_toArray, List.getElem_cons_zero, List.getElem_cons_succ]
                  refine wpAnyH_ready (rs := [16]) (by as_aux_lemma => kernel_rfl) (by simp) ?_
                  refine AllReadyH.cons rfl (fun K hK => ?_) AllReadyH.nil
                  go_simp
                  
                  go_wp2_with fail
                  refine hK.out _ _ (⟨cell_alloc hHeld.1 _, cell_alloc hHeld.2 _⟩) (fun hHeld2 => ?_)
                  clear hK K hHeld
                  try simp only [Act.put, List.setIfInBounds_toArray, List.set_cons_zero, List.set_cons_succ, List.getElem_toArray, List.getElem_cons_zero, List.getElem_cons_succ]
                  refine wpAnyH_ready (rs := [17]) (by as_aux_lemma => kernel_rfl) (by simp) ?_
                  refine AllReadyH.cons rfl (fun K hK => ?_) AllReadyH.nil
                  refine step_append_rd rfl (.tmp 123) (.tmp 139) 71 71 rfl 70 i4 _ 1 4 Try.underlying71 HJ.out.1 HJ.out.2.1 HJ.out.2.2.1 HJ.out.2.2.2 rfl rfl (R3.out.1.alloc _) rfl (Src.rd 71 70 Try.underlying71 (row_fresh W3.drew 70 [wv (wadd (wadd (wadd (wxor (wxor (rotr x3 17) (rotr x3 19)) (wshr x3 10)) x2) (wxor (wxor (rotr x1 7) (rotr x1 18)) (wshr x1 3))) x0)] (by simp; unfold maxLen; omega)).rd (one_of_words (l := [_]))) (by unfold maxLen; omega) (by omega) (by omega) ?_; intro a8 cap8 w8 hr8 hst8 hrd8
                  refine hK.out _ _ (⟨hrd8.cell gw ow none rfl (n - 7) _ (by rw [List.getElem?_map, wat_eq _ (n - 7) (by rw [HLL.out]; omega), HX.out.2.2.1]; rfl), hrd8.cell gw ow none rfl (n - 16) _ (by rw [List.getElem?_map, wat_eq _ (n - 16) (by rw [HLL.out]; omega), HX.out.1]; rfl)⟩) (fun hHeld3 => ?_)
                  clear hK K hHeld2
                  try simp only [Act.put, List.setIfInBounds_toArray, List.set_cons_zero, List.set_cons_succ, List.getElem_toArray, List.getElem_cons_zero, List.getElem_cons_succ]
                  refine wpAnyH_take (i := 18) (v := ?_) rfl (by as_aux_lemma => kernel_rfl) (by as_aux_lemma => kernel_rfl) (by as_aux_lemma => kernel_rfl) (fun _ _ _ h => h) (Or.inl ⟨by rfl, ?_⟩) hHeld3 ?_
                  rotate_left
                  · intro w hSw
                    have hSw1 := hSw
                    clear hSw
                    try dsimp only at hSw1
                    go_simp
                    try (with_reducible rfl)
                  try simp only [Act.put, List.setIfInBounds_toArray, List.set_cons_zero, List.set_cons_succ, List.getElem_toArray, List.getElem_cons_zero, List.getElem_cons_succ]
                  refine wpAnyH_done (by as_aux_lemma => kernel_rfl) ?_ _
                  go_wp2_with fail
                  go_roundw
                  case rel =>
                    refine ⟨n + 1, a8, cap8, by omega, by omega, by go_num, rfl, ?_, (R3.out.2.alloc _).trans hst8⟩
                    rw [show n + 1 - 16 = (n - 16) + 1 by omega]
                    simp only [sched]
                    rw [List.map_append]
                    have en : next (sched b (n - 16)) = wadd (wadd (wadd (wxor (wxor (rotr x3 17) (rotr x3 19)) (wshr x3 10)) x2) (wxor (wxor (rotr x1 7) (rotr x1 18)) (wshr x1 3))) x0 := by
                      simp only [next, HLL.out]
                      rw [show 16 + (n - 16) - 16 = n - 16 by omega, show 16 + (n - 16) - 15 = n - 15 by omega, show 16 + (n - 16) - 7 = n - 7 by omega, show 16 + (n - 16) - 2 = n - 2 by omega]
                      rw [← HX.out.1, ← HX.out.2.1, ← HX.out.2.2.1, ← HX.out.2.2.2]
                      exact next_comm x0 (sg0 x1) x2 (sg1 x3)
                    rw [en]
                    exact hr8
                  case measure => simp [intOf]; omega
                · obtain rfl : n = 64 := by omega
                  go_wp2_with fail
                  go_meet
                  case rel => exact ⟨gw, ow, cap, rfl, HW.out.1.rd, HW.out.2.drop (by simp)⟩
            case rest =>
              rename World => V2
              obtain ⟨gw, ow, capw2, rfl, HV2⟩ := hcut
              obtain ⟨T, hT⟩ : ∃ T, T = comps iv E k := ⟨_, rfl⟩
              have hRT : Rd V 1 (some ⟨gh, oh, none⟩) 8 T.vals := by rw [hT]; exact HV.out.2.1
              have HT := Lib.hid (And.intro hT hRT)
              clear hT hRT
              have hr2 := HT.out.2.step HV2.out.2 (by simp)
              have c0 : V2.cell? ⟨gh, oh, none⟩ = some (.int .u32 (T.a.toNat : Int)) := hr2.cell gh oh none rfl 0 (wv T.a) rfl
              have c1 : V2.cell? ⟨gh, oh + 1, none⟩ = some (.int .u32 (T.b.toNat : Int)) := hr2.cell gh oh none rfl 1 (wv T.b) rfl
              have c2 : V2.cell? ⟨gh, oh + 2, none⟩ = some (.int .u32 (T.c.toNat : Int)) := hr2.cell gh oh none rfl 2 (wv T.c) rfl
              have c3 : V2.cell? ⟨gh, oh + 3, none⟩ = some (.int .u32 (T.d.toNat : Int)) := hr2.cell gh oh none rfl 3 (wv T.d) rfl
              have c4 : V2.cell? ⟨gh, oh + 4, none⟩ = some (.int .u32 (T.e.toNat : Int)) := hr2.cell gh oh none rfl 4 (wv T.e) rfl
              have c5 : V2.cell? ⟨gh, oh + 5, none⟩ = some (.int .u32 (T.f.toNat : Int)) := hr2.cell gh oh none rfl 5 (wv T.f) rfl
              have c6 : V2.cell? ⟨gh, oh + 6, none⟩ = some (.int .u32 (T.g.toNat : Int)) := hr2.cell gh oh none rfl 6 (wv T.g) rfl
              have c7 : V2.cell? ⟨gh, oh + 7, none⟩ = some (.int .u32 (T.h.toNat : Int)) := hr2.cell gh oh none rfl 7 (wv T.h) rfl
              clear hr2
              go_wp2_with fail
              refine wp_region_quiet_lit (by as_aux_lemma => kernel_rfl) (by as_aux_lemma => kernel_rfl) ?_
              repeat go_big_quiet_step (fail)
              refine wpQuiet_nil ?_
              intro W3 hw'
              obtain ⟨nq3, hW3⟩ := hw'
              have S3 : Hid (Step [] [] V W3) := by rw [hW3]; exact HV2.out.2.drewN _
              have hk3 : Rd W3 1 (some ⟨w5.heap.size + 1, 0, none⟩) 64 (kc.map wv) := HV.out.2.2.1.step S3.out (by simp)
              have hs3 : Rd W3 1 (some ⟨gw, ow, none⟩) 64 ((sched b 48).map wv) := by rw [hW3]; exact HV2.out.1.step ((Step.refl [] V2).drewN _) (by simp)
              have H3 := Lib.hid (And.intro hk3 hs3)
              clear hW3 hk3 hs3 c0 c1 c2 c3 c4 c5 c6 c7
              go_upto_block 10 with fail
              go_cut [14, 15, 16, 17, 18, 19, 20, 21] (fun v14 v15 v16 v17 v18 v19 v20 v21 wx => ∃ U : S8, v14 = .int .u32 (U.a.toNat : Int) ∧ v15 = .int .u32 (U.b.toNat : Int) ∧ v16 = .int .u32 (U.c.toNat : Int) ∧ v17 = .int .u32 (U.d.toNat : Int) ∧ v18 = .int .u32 (U.e.toNat : Int) ∧ v19 = .int .u32 (U.f.toNat : Int) ∧ v20 = .int .u32 (U.g.toNat : Int) ∧ v21 = .int .u32 (U.h.toNat : Int) ∧ Hid (U = roundsTo (sched b 48) T 64 ∧ Step [] [] W3 wx))
              case first => as_aux_lemma =>
                go_wp2_with fail
                go_loopw [14, 15, 16, 17, 18, 19, 20, 21, 22] (fun v14 v15 v16 v17 v18 v19 v20 v21 v22 wr => ∃ (j : Nat) (U : S8), j ≤ 64 ∧ v22 = .int .i64 j ∧ v14 = .int .u32 (U.a.toNat : Int) ∧ v15 = .int .u32 (U.b.toNat : Int) ∧ v16 = .int .u32 (U.c.toNat : Int) ∧ v17 = .int .u32 (U.d.toNat : Int) ∧ v18 = .int .u32 (U.e.toNat : Int) ∧ v19 = .int .u32 (U.f.toNat : Int) ∧ v20 = .int .u32 (U.g.toNat : Int) ∧ v21 = .int .u32 (U.h.toNat : Int) ∧ Hid (U = roundsTo (sched b 48) T j ∧ Step [] [] W3 wr))
                  (fun _ _ _ _ _ _ _ _ i _ => 64 - (intOf i).toNat)
                case atStart => exact ⟨0, T, by omega, rfl, rfl, rfl, rfl, rfl, rfl, rfl, rfl, rfl, rfl, Step.refl _ _⟩
                case round =>
                  obtain ⟨j, U, hj, rfl, rfl, rfl, rfl, rfl, rfl, rfl, rfl, rfl, HW⟩ := hrel
                  by_cases hlt4 : j < 64
                  · have hlt4' : (j : Int) < 64 := by omega
                    obtain ⟨kk, hkk⟩ : ∃ kk, kk = wat kc j := ⟨_, rfl⟩
                    obtain ⟨ww, hww⟩ : ∃ ww, ww = wat (sched b 48) j := ⟨_, rfl⟩
                    have ck : wr.cell? ⟨w5.heap.size + 1, j, none⟩ = some (.int .u32 (kk.toNat : Int)) := by
                      have := (H3.out.1.step HW.out.2 (by simp)).cell _ 0 none rfl j (wv kk) (by rw [List.getElem?_map, wat_eq kc j (by rw [kc_len]; exact hlt4), hkk]; rfl)
                      rw [Nat.zero_add] at this
                      exact this
                    have cw : wr.cell? ⟨gw, ow + j, none⟩ = some (.int .u32 (ww.toNat : Int)) := (H3.out.2.step HW.out.2 (by simp)).cell gw ow none rfl j (wv ww) (by rw [List.getElem?_map, wat_eq (sched b 48) j (by rw [sched_len]; exact hlt4), hww]; rfl)
                    have HKW := Lib.hid (And.intro hkk hww)
                    clear hkk hww
                    go_wp2_with fail
                    refine wp_region_quiet_lit (by as_aux_lemma => kernel_rfl) (by as_aux_lemma => kernel_rfl) ?_
                    go_big_quiet_step (fail)
                    go_big_quiet_step (fail)
                    go_big_quiet_step (with_reducible exact quiet_o (turn6 _))
                    go_big_quiet_step (fail)
                    go_big_quiet_step (with_reducible exact quiet_o (turn11 _))
                    go_big_quiet_step (fail)
                    go_big_quiet_step (fail)
                    go_big_quiet_step (with_reducible exact quiet_o (turn25 _))
                    repeat go_big_quiet_step (fail)
                    refine wpQuiet_nil ?_
                    intro W4 hw'
                    obtain ⟨nq4, hW4⟩ := hw'
                    have S4 : Hid (Step [] [] W3 W4) := by rw [hW4]; exact HW.out.2.drewN _
                    clear hW4 ck cw
                    go_wp2_with fail
                    refine (turn2 _ _).mono ?_; rintro e w8 ⟨rfl, rfl⟩
                    go_wp2_with fail
                    refine (turn13 _ _).mono ?_; rintro e w8 ⟨rfl, rfl⟩
                    go_wp2_with fail
                    refine (turn22 _ _).mono ?_; rintro e w8 ⟨rfl, rfl⟩
                    go_wp2_with fail
                    go_roundw
                    case rel =>
                      refine ⟨j + 1, round U kk ww, by omega, by go_num, rfl, rfl, rfl, rfl, rfl, rfl, rfl, rfl, ?_, S4.out⟩
                      rw [HW.out.1, HKW.out.1, HKW.out.2]
                      rfl
                    case measure => simp [intOf]; omega
                  · obtain rfl : j = 64 := by omega
                    go_wp2_with fail
                    go_meet
                    case rel => exact ⟨U, rfl, rfl, rfl, rfl, rfl, rfl, rfl, rfl, HW⟩
              case rest =>
                rename World => V3
                obtain ⟨U, rfl, rfl, rfl, rfl, rfl, rfl, rfl, rfl, HU⟩ := hcut
                have S5 : Hid (Step [] [] V V3) := S3.out.trans HU.out.2
                have hr3 := HT.out.2.step S5.out (by simp)
                have c0 : V3.cell? ⟨gh, oh, none⟩ = some (.int .u32 (T.a.toNat : Int)) := hr3.cell gh oh none rfl 0 (wv T.a) rfl
                have c1 : V3.cell? ⟨gh, oh + 1, none⟩ = some (.int .u32 (T.b.toNat : Int)) := hr3.cell gh oh none rfl 1 (wv T.b) rfl
                have c2 : V3.cell? ⟨gh, oh + 2, none⟩ = some (.int .u32 (T.c.toNat : Int)) := hr3.cell gh oh none rfl 2 (wv T.c) rfl
                have c3 : V3.cell? ⟨gh, oh + 3, none⟩ = some (.int .u32 (T.d.toNat : Int)) := hr3.cell gh oh none rfl 3 (wv T.d) rfl
                have c4 : V3.cell? ⟨gh, oh + 4, none⟩ = some (.int .u32 (T.e.toNat : Int)) := hr3.cell gh oh none rfl 4 (wv T.e) rfl
                have c5 : V3.cell? ⟨gh, oh + 5, none⟩ = some (.int .u32 (T.f.toNat : Int)) := hr3.cell gh oh none rfl 5 (wv T.f) rfl
                have c6 : V3.cell? ⟨gh, oh + 6, none⟩ = some (.int .u32 (T.g.toNat : Int)) := hr3.cell gh oh none rfl 6 (wv T.g) rfl
                have c7 : V3.cell? ⟨gh, oh + 7, none⟩ = some (.int .u32 (T.h.toNat : Int)) := hr3.cell gh oh none rfl 7 (wv T.h) rfl
                clear hr3
                go_wp2_with fail
                refine still_tail 40 (by as_aux_lemma => kernel_rfl) (by as_aux_lemma => kernel_rfl) ?_
                simp only [List.take_succ_cons, List.take_zero, List.drop_succ_cons, List.drop_zero]
                repeat still_step
                refine wpStill_nil ?_
                go_wp2_with fail
                go_roundw
                case rel =>
                  have S6 : Step [] [] V V3 := S5.out
                  have e : comps iv E (k + 1) = T.add U := by
                    rw [comps_next iv E k hk, ← HT.out.1, ← HB.out.1, HU.out.1]; rfl
                  refine ⟨k + 1, _, _, hfull, by congr 1, rfl, ((HV.out.1.step S6 (by simp)).alloc _).drew, ?_, ((HV.out.2.2.1.step S6 (by simp)).alloc _).drew, ((HV.out.2.2.2.trans S6).alloc _).drew⟩
                  rw [e]
                  exact (row_fresh V3 70 (T.add U).vals (by rw [S8.vals_len]; unfold maxLen; omega)).rd.drew
                case measure => simp [intOf]; omega
        · have hk' : 64 * k = E.length := by omega
          have hln : E.length = n3 + 8 := HE.out.2.1
          have hlt' : ¬ 64 * (k : Int) < (n3 : Int) + 8 := by omega
          go_wp2_with fail
          go_meet
          case rel =>
            obtain rfl : k = E.length / 64 := by omega
            exact ⟨a, cap, rfl, HV.out.2.1, HV.out.2.2.2⟩
    case rest =>
      rename World => V4
      obtain ⟨ah, caph, rfl, HH⟩ := hcut
      obtain ⟨gh, oh, rfl⟩ := HH.out.1.some_ (by omega)
      obtain ⟨F, hF⟩ : ∃ F, F = comps iv E (E.length / 64) := ⟨_, rfl⟩
      rw [← hF] at HH
      have HF := Lib.hid hF
      clear hF
      have R0 : Hid (Row (V4.alloc (.cells #[] 5)) 1 (some ⟨V4.heap.size, 0, none⟩) 0 0 (((F.list.take 0).flatMap wdbytes).map bv) ∧ Step [] (blks (some ⟨V4.heap.size, 0, none⟩)) V4 (V4.alloc (.cells #[] 5))) := Lib.hid ⟨row_fresh V4 5 [] (by simp), (Step.refl [] V4).hold _⟩
      go_wp2_with fail
      go_loopw [25, 26] (fun v i wr => ∃ (t : Nat) (a : Option Addr) (cap n : Nat), t ≤ 8 ∧ n ≤ 32 ∧ i = .int .i64 t ∧ v = .slice a n cap ∧ Hid (n = 4 * t ∧ Row wr 1 a n cap (((F.list.take t).flatMap wdbytes).map bv) ∧ Step [] (blks a) V4 wr))
        (fun _ i _ => 8 - (intOf i).toNat)
      case atStart => exact ⟨0, _, 0, 0, by omega, by omega, rfl, rfl, rfl, R0.out⟩
      case round =>
        clear R0
        obtain ⟨t, a, cap, n, ht, hn, rfl, rfl, HW⟩ := hrel
        by_cases hlt : t < 8
        · have hlt' : (t : Int) < 8 := by omega
          obtain ⟨x, hx⟩ : ∃ x, x = wat F.list t := ⟨_, rfl⟩
          have cx : wr.cell? ⟨gh, oh + t, none⟩ = some (.int .u32 (x.toNat : Int)) := (HH.out.1.step HW.out.2.2 (by simp)).cell gh oh none rfl t (wv x) (by rw [S8.vals_list, List.getElem?_map, S8.list_get F t hlt, hx]; rfl)
          have HX := Lib.hid hx
          clear hx
          go_wp2_with fail
          refine (number_at x.toNat 4 _ _ rfl rfl (by have := x.isLt; omega) (by omega) (by omega) _).mono ?_
          rintro e w8 ⟨g8, rfl, r8, k8⟩
          rw [numBytes_4] at r8
          have H8 := Lib.hid (And.intro r8 k8)
          clear r8 k8 cx
          go_wp2_with (at_builtin; refine wpList_append_row rfl (.tmp 276) (.tmp 282) 26 26 rfl 5 i0 _ 1 1 Try.underlying26 HI.out.1 HI.out.2.1 HI.out.2.2.1 HI.out.2.2.2 rfl rfl (HW.out.2.1.step H8.out.2 (by simp)) rfl (Src.rd 26 5 Try.underlying26 H8.out.1 one_of_map) (by unfold maxLen; omega) (by omega) (by omega) ?_; intro a9 cap9 w9 hr9 hst9)
          go_roundw
          case rel =>
            refine ⟨t + 1, a9, cap9, n + 4, by omega, by have := HW.out.1; omega, by go_num, rfl, by have := HW.out.1; omega, ?_, (HW.out.2.2.trans (H8.out.2.keep _)).trans hst9⟩
            rw [List.take_add_one, S8.list_get F t hlt, List.flatMap_append, List.map_append]
            simpa [HX.out] using hr9
          case measure => simp [intOf]; omega
        · obtain rfl : t = 8 := by omega
          go_wp2_with fail
          rw [run_str_of_row 26 9 5 Try.underlying26 Try.underlying5 Try.underlying9 HW.out.2.1]
          rw [Result.andThen_ok, Oper.upon_value]
          go_wp2_with fail
          refine bodyPost_ret (results_tmp rfl _ _ _) rfl ⟨?_, HH.out.2.trans (HW.out.2.2.drop (by simp))⟩
          have e : (F.list.take 8).flatMap wdbytes = sha s := by
            rw [show F.list.take 8 = F.list from rfl, ← S8.bytes_flat, HF.out, sha, ← HE.out.1]
          exact congrArg (fun l => Ending.returned (Str l)) e
end Go.Proofs.Ytdiacfbflbenoaa
