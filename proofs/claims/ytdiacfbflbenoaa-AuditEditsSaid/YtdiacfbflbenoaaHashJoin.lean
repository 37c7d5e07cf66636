/-
  hash.Parts. Condition: at most 2^40 bytes in all.
-/
import Derived.Test.YtdiacfbflbenoaaHashAll
namespace Go.Proofs.Ytdiacfbflbenoaa
open Go.RowKit
set_option linter.unusedSimpArgs false
set_option linter.unusedVariables false

/-- Parts, each with its length ahead. -/
def joined (l : List (List UInt8)) : List UInt8 := l.flatMap (fun s => len8 s.length ++ s)
theorem joined_take (l : List (List UInt8)) (k : Nat) (x : List UInt8) (h : l[k]? = some x) : joined (l.take (k + 1)) = joined (l.take k) ++ (len8 x.length ++ x) := by
  simp [joined, List.take_add_one, h]
theorem joined_len (l : List (List UInt8)) : (joined l).length = 8 * l.length + l.flatten.length := by
  induction l with
  | nil => rfl
  | cons a r ih => simp only [joined, List.flatMap_cons, List.length_append, List.flatten_cons, List.length_cons] at ih ⊢; rw [ih]; simp [len8]; omega
theorem joined_take_len (l : List (List UInt8)) (k : Nat) : (joined (l.take k)).length ≤ (joined l).length := by
  have : joined l = joined (l.take k) ++ joined (l.drop k) := by
    rw [joined, joined, joined, ← List.flatMap_append, List.take_append_drop]
  rw [this, List.length_append]; omega

set_option maxRecDepth 100000 in
set_option maxHeartbeats 1000000 in
theorem parts_any (l : List (List UInt8)) (a : Option Addr) (cap : Nat) (w : World) (hr : Rd w 1 a l.length (l.map Str)) (hl : l.length ≤ 1099511627776) (hb : (joined l).length ≤ 1099511627776) :
    Calls Try.prog 39 #[.slice a l.length cap] w fun e w' => e = .returned (Str (sha (joined l))) ∧ Step [] [] w w' := by
  obtain ⟨i0, hi, hz0, hz1, hz2⟩ := info_parts Try.info_bytes
  have HI := Lib.hid (And.intro hi (And.intro hz0 (And.intro hz1 hz2)))
  clear hi hz0 hz1 hz2
  go_enter Try.func39, Try.ntmps39
  go_wp2_with fail
  refine (new_any _).mono ?_
  rintro e w1 ⟨p, rfl, h1, s1⟩
  have H1 := Lib.hid (And.intro h1 s1)
  clear h1 s1
  go_upto_block 0 with fail
  go_cut [] (fun wx => Hid (∃ S', St wx p S' (joined l) ∧ Step [] S' w wx))
  case first =>
    go_wp2_with fail
    go_loopw [11] (fun i wr => ∃ (k : Nat) (S' : List Nat), k ≤ l.length ∧ i = .int .i64 k ∧ Hid (St wr p S' (joined (l.take k)) ∧ Step [] S' w wr))
      (fun i _ => l.length - (intOf i).toNat)
    case atStart => exact ⟨0, [p], by omega, rfl, H1.out⟩
    case round =>
      rename World => V
      obtain ⟨k, S', hk, rfl, HK⟩ := hrel
      by_cases hlt : k < l.length
      · have hlt' : (k : Int) < l.length := by omega
        obtain ⟨x, hx⟩ : ∃ x, l[k]? = some x := ⟨_, List.getElem?_eq_getElem hlt⟩
        obtain ⟨g, off, rfl⟩ := hr.some_ (by omega)
        have cx := (hr.step0 HK.out.2).cell g off none rfl k (Str x) (by simp [hx])
        have hbx : (joined (l.take k)).length + (8 + x.length) ≤ 1099511627776 := by
          have h1 := joined_take_len l (k + 1)
          rw [joined_take l k x hx, List.length_append] at h1
          simp [len8] at h1
          omega
        go_upto_block 2 with fail
        go_cut [6] (fun v wx => ∃ (a : Option Addr) (cap : Nat), v = .slice a 8 cap ∧ Hid (Row wx 1 a 8 cap ((len8 x.length).map bv) ∧ Step [] [] V wx))
        case first =>
          go_wp2_with fail
          go_loopw [6, 7] (fun v j wr => ∃ (i : Nat) (a : Option Addr) (cap n : Nat), i ≤ 8 ∧ n ≤ 8 ∧ v = .slice a n cap ∧ j = .int .i64 (56 - 8 * (i : Int)) ∧ Hid (n = i ∧ Row wr 1 a n cap (((len8 x.length).take i).map bv) ∧ Step [] (blks a) V wr))
            (fun _ j _ => (intOf j + 8).toNat)
          case atStart => exact ⟨0, none, 0, 0, by omega, by omega, rfl, rfl, rfl, Row.none _ _, Step.refl _ _⟩
          case round =>
            obtain ⟨i, a, cap, n, hi, hn, rfl, rfl, HW⟩ := hrel
            by_cases hlt2 : i < 8
            · have hk0 : (0 : Int) ≤ 56 - 8 * (i : Int) := by omega
              have hby := lb_int x.length i hlt2
              go_wp2_with (at_builtin; refine wpList_append_row rfl (.tmp 19) (.tmp 26) 26 26 rfl 5 i0 _ 1 1 Try.underlying26 HI.out.1 HI.out.2.1 HI.out.2.2.1 HI.out.2.2.2 rfl rfl (HW.out.2.1.alloc _) rfl (Src.rd 26 5 Try.underlying26 (row_fresh wr 5 [bv (lb x.length i)] (by simp; unfold maxLen; omega)).rd (one_of_map (l := [lb x.length i]))) (by unfold maxLen; omega) (by omega) (by omega) ?_; intro a4 cap4 w4 hr4 hst4)
              go_roundw
              case rel =>
                refine ⟨i + 1, a4, cap4, n + 1, by omega, by have := HW.out.1; omega, rfl, by go_num, by have := HW.out.1; omega, ?_, (HW.out.2.2.alloc _).trans hst4⟩
                rw [len8_take _ _ hlt2, List.map_append]
                exact hr4
              case measure => simp [intOf]; omega
            · have hk0 : ¬ (0 : Int) ≤ 56 - 8 * (i : Int) := by omega
              go_wp2_with fail
              go_meet
              case rel =>
                obtain rfl : i = 8 := by omega
                have := HW.out.1
                subst this
                exact ⟨_, _, rfl, HW.out.2.1, HW.out.2.2.drop (by simp)⟩
        case rest =>
          obtain ⟨a5, cap5, rfl, HF⟩ := hcut
          go_wp2_with fail
          rw [run_str_of_row 26 9 5 Try.underlying26 Try.underlying5 Try.underlying9 HF.out.1]
          rw [Result.andThen_ok, Oper.upon_value]
          obtain ⟨L8, hL8⟩ : ∃ L8, L8 = len8 x.length := ⟨_, rfl⟩
          rw [← hL8]
          have hl8 : L8.length = 8 := by rw [hL8]; rfl
          have HL8 := Lib.hid hL8
          clear hL8
          have hS : S' = S' := rfl
          go_wp2_with fail
          refine (write_any p S' _ L8 _ (HK.out.1.step (T := []) HF.out.2 (by simp)) (by rw [hl8]; omega)).mono ?_
          rintro e w2 ⟨rfl, S2, h2, s2⟩
          have H2 := Lib.hid (And.intro h2 ((HK.out.2.trans (HF.out.2.keep _)).trans s2))
          clear h2 s2
          go_wp2_with fail
          refine (write_any p S2 _ x _ H2.out.1 (by rw [List.length_append, hl8]; omega)).mono ?_
          rintro e w3 ⟨rfl, S3, h3, s3⟩
          have H3 := Lib.hid (And.intro h3 (H2.out.2.trans s3))
          clear h3 s3
          go_wp2_with fail
          go_roundw
          case rel =>
            refine ⟨k + 1, S3, by omega, by go_num, ?_⟩
            rw [joined_take l k x hx, ← List.append_assoc, ← HL8.out]
            exact H3
          case measure => simp [intOf]; omega
      · obtain rfl : k = l.length := by omega
        go_wp2_with fail
        go_meet
        case rel =>
          rw [List.take_length] at HK
          exact ⟨S', HK.out⟩
  case rest =>
    obtain ⟨S', h2, s2⟩ := hcut.out
    have H2 := Lib.hid (And.intro h2 s2)
    clear h2 s2
    go_wp2_with fail
    refine (ssum_any p S' _ _ H2.out.1).mono ?_
    rintro e w3 ⟨rfl, s3⟩
    have H3 := Lib.hid (H2.out.2.trans (s3.keep _))
    clear s3
    go_wp2_with fail
    refine bodyPost_ret (results_tmp rfl _ _ _) rfl ⟨rfl, H3.out.drop (by simp)⟩
end Go.Proofs.Ytdiacfbflbenoaa
