/-
  Layer 17's statements: awake. Condition: utf8's tables as Go lays them.
-/
import Derived.Test.YtoabhjngcajmiaaDoorTokenRefRead
import Derived.Test.YtoabhjngcajmiaaDoorNameTabs
namespace Go.Proofs.YtoabhjngcajmiaaDoor
open Go.RowKit Go.Lib
set_option linter.unusedSimpArgs false
set_option linter.unusedVariables false

theorem root_right : rightL [114, 111, 111, 116] = true := by kernel_rfl
theorem numB_1 : numB 1 = [1, 1] := by simp [numB, be_pos, be_zero]
theorem numB_4 : numB 4 = [1, 4] := by simp [numB, be_pos, be_zero]
theorem numB_32 : numB 32 = [1, 32] := by simp [numB, be_pos, be_zero]
theorem root_body : bodyL [114, 111, 111, 116] 1 = [1, 1, 1, 4, 114, 111, 111, 116, 1, 1] := by
  simp [bodyL, numB_1, numB_4]
theorem root_mint : mintL [107] [114, 111, 111, 116] 1 = [1, 1, 1, 4, 114, 111, 111, 116, 1, 1] ++ ([1, 32] ++ macOf [107] [1, 1, 1, 4, 114, 111, 111, 116, 1, 1]) := by
  unfold mintL
  rw [if_pos ⟨root_right, by omega, by omega⟩, root_body, numB_32]
set_option maxHeartbeats 400000 in
theorem awake_true (w : World) (hT : Tabs w) : Calls Tryd.prog 8 #[] w fun e w' => e = .returned (.bool true) ∧ Step [] [] w w' := by
  have HT := Lib.hid hT
  have hne : mintL [107] [114, 111, 111, 116] 1 ≠ [] := by rw [root_mint]; simp
  have hrd := read_mint [107] [114, 111, 111, 116] 1 hne
  have hlen : (mintL [107] [114, 111, 111, 116] 1).length = 44 := by rw [root_mint]; simp [mac_len]
  have htk : (mintL [107] [114, 111, 111, 116] 1).take 10 = [1, 1, 1, 4, 114, 111, 111, 116, 1, 1] := by rw [root_mint]; rfl
  have cm := fun w => mint_any [107] [114, 111, 111, 116] 1 w (by simp) (by simp)
  generalize mintL [107] [114, 111, 111, 116] 1 = t at *
  have CM := Lib.hid cm
  have HR := Lib.hid hrd
  have HL := Lib.hid hlen
  have HK := Lib.hid htk
  clear hT hne hrd hlen htk cm
  go_enter Tryd.func8, Tryd.ntmps8
  go_wp2_with fail
  refine (CM.out w HT.out).mono ?_
  rintro e w1 ⟨rfl, h1⟩
  have HT1 := Lib.hid (HT.out.step h1)
  go_wp2_with fail
  refine (read2_any [107] t w1 (by simp) (by rw [HL.out]; omega) HT1.out).mono ?_
  rintro e w2 ⟨rfl, h2⟩
  rw [HR.out]
  have l1 : ((t.length : Int) == 44) = true := by rw [HL.out]; rfl
  have l2 : (10 : Int) ≤ t.length := by rw [HL.out]; omega
  have l3 := HK.out
  go_wp2_with fail
  go_ret
  exact ⟨rfl, h1.trans h2⟩
end Go.Proofs.YtoabhjngcajmiaaDoor
