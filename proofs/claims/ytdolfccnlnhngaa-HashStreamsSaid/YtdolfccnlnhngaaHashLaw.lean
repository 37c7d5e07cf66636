/-
  The laws' awake: the document's example. No condition.
-/
import Derived.Test.YtdolfccnlnhngaaHashHex
namespace Go.Proofs.Ytdolfccnlnhngaa
open Go.RowKit
set_option linter.unusedSimpArgs false
set_option linter.unusedVariables false
theorem hex_abc : hexOf (sha [97, 98, 99]) = [98, 97, 55, 56, 49, 54, 98, 102, 56, 102, 48, 49, 99, 102, 101, 97, 52, 49, 52, 49, 52, 48, 100, 101, 53, 100, 97, 101, 50, 50, 50, 51, 98, 48, 48, 51, 54, 49, 97, 51, 57, 54, 49, 55, 55, 97, 57, 99, 98, 52, 49, 48, 102, 102, 54, 49, 102, 50, 48, 48, 49, 53, 97, 100] := by
  rw [sha_abc]; decide +kernel
set_option maxRecDepth 100000 in
theorem awake_true (w : World) : Calls Try.prog 9 #[] w fun e w' => e = .returned (.bool true) ∧ Step [] [] w w' := by
  go_enter Try.func9, Try.ntmps9
  go_wp2_with fail
  refine (sum_any [97, 98, 99] w (by simp)).mono ?_
  rintro e w1 ⟨rfl, k1⟩
  go_wp2_with fail
  refine (hex_any (sha [97, 98, 99]) w1 (by rw [sha_len]; omega)).mono ?_
  rintro e w2 ⟨rfl, k2⟩
  rw [hex_abc]
  have K := Lib.hid (k1.trans k2)
  clear k1 k2
  go_wp2_with fail
  exact bodyPost_ret (results_tmp rfl _ _ _) rfl ⟨rfl, K.out⟩
end Go.Proofs.Ytdolfccnlnhngaa
