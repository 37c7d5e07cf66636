/-
  hash.all, hash.Sum: the digest of texts. Condition: at most 2^40 bytes in all.
-/
import Derived.Test.YtdiacfbflbenoaaHashSum
namespace Go.Proofs.Ytdiacfbflbenoaa
open Go.RowKit
set_option linter.unusedSimpArgs false
set_option linter.unusedVariables false

theorem flatten_take_len {α : Type} (l : List (List α)) (k : Nat) : ((l.take k).flatten).length ≤ l.flatten.length := by
  have : l.flatten = (l.take k).flatten ++ (l.drop k).flatten := by rw [← List.flatten_append, List.take_append_drop]
  rw [this, List.length_append]; omega
theorem flatten_take_add {α : Type} (l : List (List α)) (k : Nat) (x : List α) (h : l[k]? = some x) : (l.take (k + 1)).flatten = (l.take k).flatten ++ x := by
  rw [List.take_add_one, h, List.flatten_append]; simp

set_option maxRecDepth 10000 in
set_option maxHeartbeats 1000000 in
theorem all_any (l : List (List UInt8)) (a : Option Addr) (cap : Nat) (w : World) (hr : Rd w 1 a l.length (l.map Str)) (hl : l.length ≤ 1099511627776) (hb : l.flatten.length ≤ 1099511627776) :
    Calls Try.prog 47 #[.slice a l.length cap] w fun e w' => e = .returned (Str (sha l.flatten)) ∧ Step [] [] w w' := by
  go_enter Try.func47, Try.ntmps47
  go_wp2_with fail
  refine (new_any _).mono ?_
  rintro e w1 ⟨p, rfl, h1, s1⟩
  have H1 := Lib.hid (And.intro h1 s1)
  clear h1 s1
  go_upto_block 0 with fail
  go_cut [] (fun wx => Hid (∃ S', St wx p S' l.flatten ∧ Step [] S' w wx))
  case first =>
    go_wp2_with fail
    go_loopw [9] (fun i wr => ∃ (k : Nat) (S' : List Nat), k ≤ l.length ∧ i = .int .i64 k ∧ Hid (St wr p S' ((l.take k).flatten) ∧ Step [] S' w wr))
      (fun i _ => l.length - (intOf i).toNat)
    case atStart => exact ⟨0, [p], by omega, rfl, H1.out⟩
    case round =>
      obtain ⟨k, S', hk, rfl, HK⟩ := hrel
      by_cases hlt : k < l.length
      · have hlt' : (k : Int) < l.length := by omega
        obtain ⟨x, hx⟩ : ∃ x, l[k]? = some x := ⟨_, List.getElem?_eq_getElem hlt⟩
        obtain ⟨g, off, rfl⟩ := hr.some_ (by omega)
        have cx := (hr.step0 HK.out.2).cell g off none rfl k (Str x) (by simp [hx])
        have hbx : ((l.take k).flatten).length + x.length ≤ 1099511627776 := by
          have h1 := flatten_take_len l (k + 1)
          rw [flatten_take_add l k x hx, List.length_append] at h1
          omega
        go_wp2_with fail
        refine (write_any p S' _ x _ HK.out.1 hbx).mono ?_
        rintro e w2 ⟨rfl, S2, h2, s2⟩
        have H2 := Lib.hid (And.intro h2 (HK.out.2.trans s2))
        clear h2 s2
        go_wp2_with fail
        go_roundw
        case rel =>
          refine ⟨k + 1, S2, by omega, by go_num, ?_⟩
          rw [flatten_take_add l k x hx]
          exact H2
        case measure => simp [intOf]; omega
      · obtain rfl : k = l.length := by omega
        go_wp2_with fail
        go_meet
        case rel =>
          rw [List.take_length] at HK
          exact ⟨S', HK.out⟩
  case rest =>
    obtain ⟨S', h2, s2⟩ := hcut.out
    have H2 := Lib.hid (And.intro h2 s2)
    clear h2 s2
    go_wp2_with fail
    refine (ssum_any p S' _ _ H2.out.1).mono ?_
    rintro e w3 ⟨rfl, s3⟩
    have H3 := Lib.hid (H2.out.2.trans (s3.keep _))
    clear s3
    go_wp2_with fail
    refine bodyPost_ret (results_tmp rfl _ _ _) rfl ⟨rfl, H3.out.drop (by simp)⟩

set_option maxHeartbeats 400000 in
theorem sum_any (s : List UInt8) (w : World) (hb : s.length ≤ 1099511627776) :
    Calls Try.prog 34 #[Str s] w fun e w' => e = .returned (Str (sha s)) ∧ Step [] [] w w' := by
  go_enter Try.func34, Try.ntmps34
  go_wp2_with fail
  have hr := (row_fresh w 9 [Str s] (by simp; unfold maxLen; omega)).rd
  refine (all_any [s] _ 1 _ hr (by simp) (by simpa using hb)).mono ?_
  rintro e w1 ⟨rfl, s1⟩
  have H1 := Lib.hid s1
  clear s1 hr
  go_wp2_with fail
  refine bodyPost_ret (results_tmp rfl _ _ _) rfl ⟨by simp, ((Step.refl [] w).alloc _).trans H1.out⟩
end Go.Proofs.Ytdiacfbflbenoaa
