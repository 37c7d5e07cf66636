/-
  Flat and Encode of the request that has no body. No condition.
-/
import Derived.Test.YtifjnpdnnfdcoaaReqO
import Derived.Test.YtifjnpdnnfdcoaaReqE
namespace Go.Proofs.Ytifjnpdnnfdcoaa
open Go.RowKit
set_option linter.unusedSimpArgs false
set_option linter.unusedVariables false
set_option maxRecDepth 100000

set_option maxHeartbeats 8000000 in
theorem flatNil_any (w : World) : Calls Try.prog 18 #[.agg #[.int .i64 0, .int .i64 0, .string ⟨#[]⟩, .nilIface]] w fun e w' => e = .returned (.agg cmZ18) ∧ Step [] [] w w' := by
  have q1 := rta01
  have q2 := rta02
  have q3 := rta03
  have q4 := rta04
  have A0 := blk3q w 35 29 29 #[.int .i64 0, .int .i64 0, .string ⟨#[]⟩, .nilIface] cmZ18 cmZ18
  have A1 := (((Step.refl [] w).alloc (.cells #[.int .i64 0, .int .i64 0, .string ⟨#[]⟩, .nilIface] 35)).alloc (.cells cmZ18 29)).alloc (.cells cmZ18 29)
  have HA := Lib.hid (And.intro A0 A1)
  clear A0 A1
  go_enter Try.func18, Try.ntmps18
  go_upto_region 2 with (refine wpList_storeRow (T := 29) (b := w.heap.size + 1 + 1) (T' := 29) (cs := cmZ18) (vs := cmZ18) rfl (.tmp 3) (.tmp 15) rfl rfl rfl Try.sCmd HA.out.1.2.2 rfl cmZ18_one ?_; intro V vb ks)
  obtain ⟨b, hb⟩ : ∃ b, b = w.heap.size := ⟨_, rfl⟩
  have H1 : Hid (Blk V b 35 #[.int .i64 0, .int .i64 0, .string ⟨#[]⟩, .nilIface] ∧ Blk V (b + 1) 29 cmZ18 ∧ Step [] [] w V ∧ b = w.heap.size) := Lib.hid (by
    rw [hb]
    exact ⟨HA.out.1.1.step ks (by simp; omega), HA.out.1.2.1.step ks (by simp), HA.out.2.out1' ks (by simp; omega), rfl⟩)
  rw [← hb]
  clear hb HA vb ks
  have c := H1.out.1.cell
  have c0 := c 0
  have c1 := c 1
  have c2 := c 2
  have c3 := c 3
  have cl := H1.out.1.lt
  clear c
  simp only [List.getElem?_toArray, List.getElem?_cons_zero, List.getElem?_cons_succ] at c0 c1 c2 c3
  go_wp2_with (refine wpList_storeRow (T := 29) (b := b + 1) (T' := 29) (cs := cmZ18) (vs := cmZ18) rfl (.tmp 2) (.tmp 18) rfl rfl rfl Try.sCmd H1.out.2.1 rfl cmZ18_one ?_; intro U Q ss)
  refine bodyPost_ret (v := .agg cmZ18) ?_ rfl ⟨rfl, H1.out.2.2.1.out1' ss (by have := H1.out.2.2.2; simp; omega)⟩
  exact res_row (T := 29) (p := 2) rfl _ rfl Try.sCmd Q
set_option maxHeartbeats 8000000 in
theorem encodeNil_any (w : World) : Calls Try.prog 13 #[.agg #[.int .i64 0, .int .i64 0, .string ⟨#[]⟩, .nilIface]] w fun e w' => e = .returned (.tuple #[Str [], .int .i64 1]) ∧ Step [] [] w w' := by
  go_enter Try.func13, Try.ntmps13
  go_wp2_with fail
  refine (flatNil_any _).mono ?_
  rintro e w1 ⟨rfl, k1⟩
  have H1 : Hid (Step [] [] w w1) := Lib.hid (((Step.refl [] w).alloc _).trans k1)
  have HN : Hid (Blk (w1.alloc (.cells cmZ18 29)) w1.heap.size 29 cmZ18) := Lib.hid (Blk.new w1 _ _)
  clear k1
  go_upto_region 2 with (refine wpList_storeRow (T := 29) (b := w1.heap.size) (T' := 29) (cs := cmZ18) (vs := cmZ18) rfl (.tmp 4) (.tmp 11) rfl rfl rfl Try.sCmd HN.out rfl cmZ18_one ?_; intro U hU ss)
  have H2 : Hid (Blk U w1.heap.size 29 cmZ18 ∧ Step [] [] w U) := Lib.hid ⟨hU, (H1.out.alloc _).out1' ss (by have := H1.out.size; simp; omega)⟩
  have c3 := H2.out.1.cell 3
  have cl := H2.out.1.lt
  simp only [List.getElem?_toArray, List.getElem?_cons_zero, List.getElem?_cons_succ] at c3
  clear hU ss HN
  go_wp2_with fail
  exact bodyPost_ret (results_tmp2 rfl _ _ _) rfl ⟨rfl, H2.out.2⟩
end Go.Proofs.Ytifjnpdnnfdcoaa
