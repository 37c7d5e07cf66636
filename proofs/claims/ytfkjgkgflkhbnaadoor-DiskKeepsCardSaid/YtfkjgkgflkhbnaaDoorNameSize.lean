/-
  Layer 4's reference: Size. Condition: texts of at most 2^40 bytes.
-/
import Derived.Test.YtfkjgkgflkhbnaaDoorNameRef
namespace Go.Proofs.YtfkjgkgflkhbnaaDoor
open Go.RowKit
set_option linter.unusedSimpArgs false
set_option linter.unusedVariables false

def sizeOf8 (s : List UInt8) : Nat :=
  if inB s 0 0 127 = true then 1
  else if inB s 0 194 223 = true ∧ tl s 1 1 = true then 2
  else if tl s 1 2 = true ∧ ((inB s 0 224 224 = true ∧ inB s 1 160 191 = true) ∨ inB s 0 225 236 = true ∨ (inB s 0 237 237 = true ∧ inB s 1 128 159 = true) ∨ inB s 0 238 239 = true) then 3
  else if tl s 1 3 = true ∧ ((inB s 0 240 240 = true ∧ inB s 1 144 191 = true) ∨ inB s 0 241 243 = true ∨ (inB s 0 244 244 = true ∧ inB s 1 128 143 = true)) then 4
  else 0

theorem tail_at (s : List UInt8) (at' n : Nat) (i l : Int) (hi' : i = (at' : Int)) (hl : l = (n : Int)) (w : World) (hs : s.length ≤ 1099511627776) (ha : at' ≤ 1000) (hn : n ≤ 1000) :
    Calls Tryd.prog 54 #[Str s, .int .i64 i, .int .i64 l] w fun e w' => e = .returned (.bool (tl s at' n)) ∧ w = w' := by
  subst hi' hl; exact tail_any s at' n w hs ha hn
theorem in_0_0_127 (s : List UInt8) (hs : s.length ≤ 1099511627776) (w : World) : Calls Tryd.prog 53 #[Str s, .int .i64 0, .int .u8 0, .int .u8 127] w fun e w' => e = .returned (.bool (inB s 0 0 127)) ∧ w = w' := within_at s 0 0 127 _ _ _ rfl rfl rfl w hs (by omega)
theorem in_0_194_223 (s : List UInt8) (hs : s.length ≤ 1099511627776) (w : World) : Calls Tryd.prog 53 #[Str s, .int .i64 0, .int .u8 194, .int .u8 223] w fun e w' => e = .returned (.bool (inB s 0 194 223)) ∧ w = w' := within_at s 0 194 223 _ _ _ rfl rfl rfl w hs (by omega)
theorem in_0_224_224 (s : List UInt8) (hs : s.length ≤ 1099511627776) (w : World) : Calls Tryd.prog 53 #[Str s, .int .i64 0, .int .u8 224, .int .u8 224] w fun e w' => e = .returned (.bool (inB s 0 224 224)) ∧ w = w' := within_at s 0 224 224 _ _ _ rfl rfl rfl w hs (by omega)
theorem in_1_160_191 (s : List UInt8) (hs : s.length ≤ 1099511627776) (w : World) : Calls Tryd.prog 53 #[Str s, .int .i64 1, .int .u8 160, .int .u8 191] w fun e w' => e = .returned (.bool (inB s 1 160 191)) ∧ w = w' := within_at s 1 160 191 _ _ _ rfl rfl rfl w hs (by omega)
theorem in_0_225_236 (s : List UInt8) (hs : s.length ≤ 1099511627776) (w : World) : Calls Tryd.prog 53 #[Str s, .int .i64 0, .int .u8 225, .int .u8 236] w fun e w' => e = .returned (.bool (inB s 0 225 236)) ∧ w = w' := within_at s 0 225 236 _ _ _ rfl rfl rfl w hs (by omega)
theorem in_0_237_237 (s : List UInt8) (hs : s.length ≤ 1099511627776) (w : World) : Calls Tryd.prog 53 #[Str s, .int .i64 0, .int .u8 237, .int .u8 237] w fun e w' => e = .returned (.bool (inB s 0 237 237)) ∧ w = w' := within_at s 0 237 237 _ _ _ rfl rfl rfl w hs (by omega)
theorem in_1_128_159 (s : List UInt8) (hs : s.length ≤ 1099511627776) (w : World) : Calls Tryd.prog 53 #[Str s, .int .i64 1, .int .u8 128, .int .u8 159] w fun e w' => e = .returned (.bool (inB s 1 128 159)) ∧ w = w' := within_at s 1 128 159 _ _ _ rfl rfl rfl w hs (by omega)
theorem in_0_238_239 (s : List UInt8) (hs : s.length ≤ 1099511627776) (w : World) : Calls Tryd.prog 53 #[Str s, .int .i64 0, .int .u8 238, .int .u8 239] w fun e w' => e = .returned (.bool (inB s 0 238 239)) ∧ w = w' := within_at s 0 238 239 _ _ _ rfl rfl rfl w hs (by omega)
theorem in_0_240_240 (s : List UInt8) (hs : s.length ≤ 1099511627776) (w : World) : Calls Tryd.prog 53 #[Str s, .int .i64 0, .int .u8 240, .int .u8 240] w fun e w' => e = .returned (.bool (inB s 0 240 240)) ∧ w = w' := within_at s 0 240 240 _ _ _ rfl rfl rfl w hs (by omega)
theorem in_1_144_191 (s : List UInt8) (hs : s.length ≤ 1099511627776) (w : World) : Calls Tryd.prog 53 #[Str s, .int .i64 1, .int .u8 144, .int .u8 191] w fun e w' => e = .returned (.bool (inB s 1 144 191)) ∧ w = w' := within_at s 1 144 191 _ _ _ rfl rfl rfl w hs (by omega)
theorem in_0_241_243 (s : List UInt8) (hs : s.length ≤ 1099511627776) (w : World) : Calls Tryd.prog 53 #[Str s, .int .i64 0, .int .u8 241, .int .u8 243] w fun e w' => e = .returned (.bool (inB s 0 241 243)) ∧ w = w' := within_at s 0 241 243 _ _ _ rfl rfl rfl w hs (by omega)
theorem in_0_244_244 (s : List UInt8) (hs : s.length ≤ 1099511627776) (w : World) : Calls Tryd.prog 53 #[Str s, .int .i64 0, .int .u8 244, .int .u8 244] w fun e w' => e = .returned (.bool (inB s 0 244 244)) ∧ w = w' := within_at s 0 244 244 _ _ _ rfl rfl rfl w hs (by omega)
theorem in_1_128_143 (s : List UInt8) (hs : s.length ≤ 1099511627776) (w : World) : Calls Tryd.prog 53 #[Str s, .int .i64 1, .int .u8 128, .int .u8 143] w fun e w' => e = .returned (.bool (inB s 1 128 143)) ∧ w = w' := within_at s 1 128 143 _ _ _ rfl rfl rfl w hs (by omega)
theorem tl_1_1 (s : List UInt8) (hs : s.length ≤ 1099511627776) (w : World) : Calls Tryd.prog 54 #[Str s, .int .i64 1, .int .i64 1] w fun e w' => e = .returned (.bool (tl s 1 1)) ∧ w = w' := tail_at s 1 1 _ _ rfl rfl w hs (by omega) (by omega)
theorem tl_1_2 (s : List UInt8) (hs : s.length ≤ 1099511627776) (w : World) : Calls Tryd.prog 54 #[Str s, .int .i64 1, .int .i64 2] w fun e w' => e = .returned (.bool (tl s 1 2)) ∧ w = w' := tail_at s 1 2 _ _ rfl rfl w hs (by omega) (by omega)
theorem tl_1_3 (s : List UInt8) (hs : s.length ≤ 1099511627776) (w : World) : Calls Tryd.prog 54 #[Str s, .int .i64 1, .int .i64 3] w fun e w' => e = .returned (.bool (tl s 1 3)) ∧ w = w' := tail_at s 1 3 _ _ rfl rfl w hs (by omega) (by omega)

set_option maxRecDepth 100000 in
set_option maxHeartbeats 4000000 in
theorem size_any (s : List UInt8) (w : World) (hs : s.length ≤ 1099511627776) :
    Calls Tryd.prog 47 #[Str s] w fun e w' => e = .returned (.int .i64 (sizeOf8 s)) ∧ w = w' := by
  go_enter Tryd.func47, Tryd.ntmps47
  repeat' (first
    | (go_wp2_with fail; first
      | (with_reducible refine (in_0_0_127 s hs _).mono ?_; rintro e w1 ⟨rfl, rfl⟩; cases hb0_0_127 : inB s 0 0 127)
      | (with_reducible refine (in_0_194_223 s hs _).mono ?_; rintro e w1 ⟨rfl, rfl⟩; cases hb0_194_223 : inB s 0 194 223)
      | (with_reducible refine (in_0_224_224 s hs _).mono ?_; rintro e w1 ⟨rfl, rfl⟩; cases hb0_224_224 : inB s 0 224 224)
      | (with_reducible refine (in_1_160_191 s hs _).mono ?_; rintro e w1 ⟨rfl, rfl⟩; cases hb1_160_191 : inB s 1 160 191)
      | (with_reducible refine (in_0_225_236 s hs _).mono ?_; rintro e w1 ⟨rfl, rfl⟩; cases hb0_225_236 : inB s 0 225 236)
      | (with_reducible refine (in_0_237_237 s hs _).mono ?_; rintro e w1 ⟨rfl, rfl⟩; cases hb0_237_237 : inB s 0 237 237)
      | (with_reducible refine (in_1_128_159 s hs _).mono ?_; rintro e w1 ⟨rfl, rfl⟩; cases hb1_128_159 : inB s 1 128 159)
      | (with_reducible refine (in_0_238_239 s hs _).mono ?_; rintro e w1 ⟨rfl, rfl⟩; cases hb0_238_239 : inB s 0 238 239)
      | (with_reducible refine (in_0_240_240 s hs _).mono ?_; rintro e w1 ⟨rfl, rfl⟩; cases hb0_240_240 : inB s 0 240 240)
      | (with_reducible refine (in_1_144_191 s hs _).mono ?_; rintro e w1 ⟨rfl, rfl⟩; cases hb1_144_191 : inB s 1 144 191)
      | (with_reducible refine (in_0_241_243 s hs _).mono ?_; rintro e w1 ⟨rfl, rfl⟩; cases hb0_241_243 : inB s 0 241 243)
      | (with_reducible refine (in_0_244_244 s hs _).mono ?_; rintro e w1 ⟨rfl, rfl⟩; cases hb0_244_244 : inB s 0 244 244)
      | (with_reducible refine (in_1_128_143 s hs _).mono ?_; rintro e w1 ⟨rfl, rfl⟩; cases hb1_128_143 : inB s 1 128 143)
      | (with_reducible refine (tl_1_1 s hs _).mono ?_; rintro e w1 ⟨rfl, rfl⟩; cases hb1_1 : tl s 1 1)
      | (with_reducible refine (tl_1_2 s hs _).mono ?_; rintro e w1 ⟨rfl, rfl⟩; cases hb1_2 : tl s 1 2)
      | (with_reducible refine (tl_1_3 s hs _).mono ?_; rintro e w1 ⟨rfl, rfl⟩; cases hb1_3 : tl s 1 3)
      | (go_ret; refine ⟨?_, rfl⟩; simp [sizeOf8, *]; done)))
end Go.Proofs.YtfkjgkgflkhbnaaDoor
