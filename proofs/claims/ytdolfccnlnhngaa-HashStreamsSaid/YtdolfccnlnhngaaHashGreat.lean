/-
  The laws' great: what it lets through has at most 100 texts of 2000 bytes in all. Condition: texts of at most 2^47 bytes.
-/
import Derived.Test.YtdolfccnlnhngaaHashLaw
namespace Go.Proofs.Ytdolfccnlnhngaa
open Go.RowKit
set_option linter.unusedSimpArgs false
set_option linter.unusedVariables false

def GreatPost (l : List (List UInt8)) (w : World) (e : Ending) (w' : World) : Prop := ∃ b, e = .returned (.bool b) ∧ w = w' ∧ (b = false → l.length ≤ 100 ∧ l.flatten.length ≤ 2000)

set_option maxRecDepth 100000 in
set_option maxHeartbeats 1000000 in
theorem great_any (l : List (List UInt8)) (a : Option Addr) (cap : Nat) (w : World) (hr : Rd w 1 a l.length (l.map Str)) (hl : l.length ≤ 9223372036854775807) (hx : ∀ x ∈ l, x.length ≤ 140737488351232) :
    Calls Try.prog 12 #[.slice a l.length cap] w (GreatPost l w) := by
  have HR := Lib.hid hr
  clear hr
  go_enter Try.func12, Try.ntmps12
  go_wp2_with fail
  go_loopw [3, 7] (fun v i wr => ∃ (k n : Nat), k ≤ l.length ∧ k ≤ 100 ∧ n ≤ 2000 ∧ i = .int .i64 k ∧ v = .int .i64 n ∧ Hid (n = ((l.take k).flatten).length ∧ wr = w))
    (fun _ i _ => l.length - (intOf i).toNat)
  case atStart => exact ⟨0, 0, by omega, by omega, by omega, rfl, rfl, rfl, rfl⟩
  case round =>
    obtain ⟨k, n, hk, hk100, hn, rfl, rfl, HW⟩ := hrel
    by_cases hlt : k < l.length
    · have hlt' : (k : Int) < l.length := by omega
      obtain ⟨x, hxx⟩ : ∃ x, l[k]? = some x := ⟨_, List.getElem?_eq_getElem hlt⟩
      have hxl : x.length ≤ 140737488351232 := hx x (List.mem_of_getElem? hxx)
      obtain ⟨g, off, rfl⟩ := HR.out.some_ (by omega)
      have cx : wr.cell? ⟨g, off + k, none⟩ = some (Str x) := by
        rw [HW.out.2]; exact HR.out.cell g off none rfl k (Str x) (by simp [hxx])
      have htk := flatten_take_add l k x hxx
      have HT := Lib.hid htk
      clear htk
      by_cases h100 : k = 100
      · have h100' : (100 : Int) ≤ k := by omega
        go_wp2_with fail
        refine bodyPost_ret (results_tmp rfl _ _ _) rfl ?_
        exact ⟨true, rfl, HW.out.2.symm, by simp⟩
      · have h100' : ¬ (100 : Int) ≤ k := by omega
        by_cases hbig : 2000 < x.length
        · have hbig' : (2000 : Int) < x.length := by omega
          go_wp2_with fail
          refine bodyPost_ret (results_tmp rfl _ _ _) rfl ?_
          exact ⟨true, rfl, HW.out.2.symm, by simp⟩
        · have hbig' : ¬ (2000 : Int) < x.length := by omega
          by_cases hsum : 2000 < n + x.length
          · have hsum' : (2000 : Int) < (n : Int) + x.length := by omega
            go_wp2_with fail
            refine bodyPost_ret (results_tmp rfl _ _ _) rfl ?_
            exact ⟨true, rfl, HW.out.2.symm, by simp⟩
          · have hsum' : ¬ (2000 : Int) < (n : Int) + x.length := by omega
            go_wp2_with fail
            go_roundw
            case rel =>
              refine ⟨k + 1, n + x.length, by omega, by omega, by omega, by go_num, by congr 1, ?_, HW.out.2⟩
              rw [HT.out, List.length_append, HW.out.1]
            case measure => simp [intOf]; omega
    · obtain rfl : k = l.length := by omega
      go_wp2_with fail
      refine bodyPost_ret (results_tmp rfl _ _ _) rfl ?_
      refine ⟨false, rfl, HW.out.2.symm, fun _ => ⟨hk100, ?_⟩⟩
      have := HW.out.1
      rw [List.take_length] at this
      omega
end Go.Proofs.Ytdolfccnlnhngaa
