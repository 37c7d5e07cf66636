/-
  law19's great. No condition.
-/
import Derived.Test.YtdiacfbflbenoaaAuditJ
namespace Go.Proofs.Ytdiacfbflbenoaa
open Go.RowKit
set_option linter.unusedSimpArgs false
set_option linter.unusedVariables false
set_option maxRecDepth 100000

def smallLn (x : Ln) : Bool := !decide (1000 < x.user.length) && !decide (1000 < x.digest.length) && !decide (1000 < x.hash.length)
def greatL (l : List Ln) : Bool := decide (60 < l.length) || !l.all smallLn
theorem greatL_big {l : List Ln} {k : Nat} {x : Ln} (hx : l[k]? = some x) (h : smallLn x = false) : greatL l = true := by
  have hm := List.mem_of_getElem? hx
  have : l.all smallLn = false := by
    rw [List.all_eq_false]
    exact ⟨x, hm, by simp [h]⟩
  simp [greatL, this]
theorem greatL_long {l : List Ln} {k : Nat} (hk : k < l.length) (h : 60 ≤ k) : greatL l = true := by
  have : decide (60 < l.length) = true := decide_eq_true (by omega)
  simp [greatL, this]
theorem greatL_no {l : List Ln} (h : l.length ≤ 60) (h2 : ∀ x ∈ l, smallLn x = true) : greatL l = false := by
  have h1 : decide (60 < l.length) = false := decide_eq_false (by omega)
  have h3 : l.all smallLn = true := List.all_eq_true.2 h2
  simp [greatL, h1, h3]
theorem greatL_len {l : List Ln} (h : greatL l = false) : l.length ≤ 60 ∧ ∀ x ∈ l, smallLn x = true := by
  simp only [greatL, Bool.or_eq_false_iff, decide_eq_false_iff_not, Bool.not_eq_false'] at h
  exact ⟨by omega, List.all_eq_true.1 h.2⟩

set_option maxHeartbeats 4000000 in
theorem great_any (l : List Ln) (a : Option Addr) (cap : Nat) (w : World) (hr : Rd w 8 a l.length (lncs l)) (hl : l.length ≤ 140737488351232) :
    Calls Try.prog 9 #[.slice a l.length cap] w fun e w' => e = .returned (.bool (greatL l)) ∧ w = w' := by
  have HR := Lib.hid hr
  clear hr
  go_enter Try.func9, Try.ntmps9
  go_wp2_with fail
  go_loopw [6] (fun i W => ∃ k : Nat, i = .int .i64 k ∧ k ≤ l.length ∧ Hid (w = W ∧ k ≤ 60 ∧ ∀ x ∈ l.take k, smallLn x = true)) (fun i _ => l.length - (intOf i).toNat)
  case atStart => exact ⟨0, rfl, by omega, rfl, by omega, by simp⟩
  case round =>
    rename World => W
    obtain ⟨k, rfl, hk, HW⟩ := hrel
    obtain rfl := HW.out.1
    by_cases hlt : k < l.length
    · have hlt' : (k : Int) < l.length := by omega
      obtain ⟨x, hx⟩ : ∃ x, l[k]? = some x := ⟨_, List.getElem?_eq_getElem hlt⟩
      obtain ⟨g, off, rfl⟩ := HR.out.some_ (by omega)
      have cx := rd_line HR.out hx
      have gl : g < w.heap.size := by have := World.block_lt_of_cell? _ _ cx.1; simpa using this
      have HX := Lib.hid hx
      clear hx
      by_cases h60 : 60 ≤ k
      · have HE := Lib.hid (greatL_long hlt h60)
        have h60' : (60 : Int) ≤ k := by omega
        clear h60
        go_wp2_with fail
        exact bodyPost_ret (results_tmp rfl _ _ _) rfl ⟨by rw [HE.out]; rfl, rfl⟩
      · have h60' : ¬ (60 : Int) ≤ k := by omega
        by_cases hu : (x.user.length : Int) ≤ 1000
        · by_cases hd : (x.digest.length : Int) ≤ 1000
          · by_cases hh : (x.hash.length : Int) ≤ 1000
            · have HS : Hid (k + 1 ≤ 60 ∧ ∀ y ∈ l.take (k + 1), smallLn y = true) := by
                refine ⟨by omega, fun y hy => ?_⟩
                rw [List.take_add_one, HX.out] at hy
                rcases List.mem_append.1 hy with hy | hy
                · exact HW.out.2.2 y hy
                · simp at hy; subst hy; simp [smallLn]; omega
              go_wp2_with fail
              go_roundw
              case rel => exact ⟨k + 1, by go_num, by omega, trivial, HS.out⟩
              case measure => simp [intOf]; omega
            · have HE := Lib.hid (greatL_big HX.out (by simp [smallLn]; omega))
              go_wp2_with fail
              exact bodyPost_ret (results_tmp rfl _ _ _) rfl ⟨by rw [HE.out]; rfl, rfl⟩
          · have HE := Lib.hid (greatL_big HX.out (by simp [smallLn]; omega))
            go_wp2_with fail
            exact bodyPost_ret (results_tmp rfl _ _ _) rfl ⟨by rw [HE.out]; rfl, rfl⟩
        · have HE := Lib.hid (greatL_big HX.out (by simp [smallLn]; omega))
          go_wp2_with fail
          exact bodyPost_ret (results_tmp rfl _ _ _) rfl ⟨by rw [HE.out]; rfl, rfl⟩
    · obtain rfl : k = l.length := by omega
      have HE := Lib.hid (greatL_no HW.out.2.1 (by have := HW.out.2.2; rwa [List.take_length] at this))
      go_wp2_with fail
      exact bodyPost_ret (results_tmp rfl _ _ _) rfl ⟨by rw [HE.out]; rfl, rfl⟩
end Go.Proofs.Ytdiacfbflbenoaa
