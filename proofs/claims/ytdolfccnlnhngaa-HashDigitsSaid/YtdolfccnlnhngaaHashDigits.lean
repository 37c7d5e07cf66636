/-
  HashDigits, proved: any text in digits is the document's, and is read back; what isn't just digits is none. For every input; no condition beyond the form's own.
-/
import Derived.Test.YtdolfccnlnhngaaHashLaw
import Derived.Test.YtdolfccnlnhngaaHashUnhex
import Derived.Test.YtdolfccnlnhngaaOpen
import Derived.Test.YtdolfccnlnhngaaRows
namespace Go.Proofs.Ytdolfccnlnhngaa
open Go.RowKit Go.ChangeShapes Go.WideShapes Go.ChangeAt
set_option linter.unusedSimpArgs false
set_option linter.unusedVariables false

theorem byte_digits (c : UInt8) : isHex (digit (c.toNat / 16)) = true ∧ isHex (digit (c.toNat % 16)) = true ∧ byteOf (digit (c.toNat / 16)) (digit (c.toNat % 16)) = c := by
  have h : ∀ n : Fin 256, isHex (digit (n.val / 16)) = true ∧ isHex (digit (n.val % 16)) = true ∧ byteOf (digit (n.val / 16)) (digit (n.val % 16)) = UInt8.ofNat n.val := by decide +kernel
  have := h ⟨c.toNat, c.toNat_lt⟩
  refine ⟨this.1, this.2.1, this.2.2.trans ?_⟩
  exact UInt8.ofNat_toNat
theorem digits_byte (a b : UInt8) (ha : isHex a = true) (hb : isHex b = true) : hex2 (byteOf a b) = [a, b] := by
  have h : ∀ x : Fin 256, isHex (UInt8.ofNat x.val) = true → digit (halfOf (UInt8.ofNat x.val)) = UInt8.ofNat x.val := by decide +kernel
  have h1 := h ⟨a.toNat, a.toNat_lt⟩
  have h2 := h ⟨b.toNat, b.toNat_lt⟩
  simp only [UInt8.ofNat_toNat] at h1 h2
  have l1 := half_lt a
  have l2 := half_lt b
  have e : (byteOf a b).toNat = 16 * halfOf a + halfOf b := by unfold byteOf; rw [UInt8.toNat_ofNat']; omega
  unfold hex2
  rw [e, show (16 * halfOf a + halfOf b) / 16 = halfOf a by omega, show (16 * halfOf a + halfOf b) % 16 = halfOf b by omega, h1 ha, h2 hb]
theorem hex_right : ∀ s : List UInt8, (hexOf s).length % 2 = 0 ∧ (hexOf s).all isHex = true ∧ unp (hexOf s) = s
  | [] => ⟨rfl, rfl, rfl⟩
  | c :: r => by
    obtain ⟨h1, h2, h3⟩ := hex_right r
    obtain ⟨g1, g2, g3⟩ := byte_digits c
    have e : hexOf (c :: r) = digit (c.toNat / 16) :: digit (c.toNat % 16) :: hexOf r := by simp [hexOf, hex2]
    rw [e]
    refine ⟨by simp; omega, by simp only [List.all_cons, g1, g2, h2, Bool.and_self], ?_⟩
    simp only [unp, g3, h3]
theorem right_hex : ∀ t : List UInt8, t.length % 2 = 0 → t.all isHex = true → hexOf (unp t) = t
  | [], _, _ => rfl
  | [a], h, _ => by simp at h
  | a :: b :: r, h, ha => by
    simp only [List.all_cons, Bool.and_eq_true] at ha
    have ih := right_hex r (by simp at h; omega) ha.2.2
    simp only [unp, hexOf, List.flatMap_cons] at ih ⊢
    rw [ih, digits_byte a b ha.1 ha.2.1]; rfl

theorem unhex_hex (s : List UInt8) : rightHex (hexOf s) = true ∧ unhexOf (hexOf s) = s := by
  obtain ⟨h1, h2, h3⟩ := hex_right s
  have h : rightHex (hexOf s) = true := by simp [rightHex, h1, h2]
  exact ⟨h, by simp [unhexOf, h, h3]⟩
theorem hex_unhex (t : List UInt8) (h : rightHex t = true) : hexOf (unhexOf t) = t := by
  have h' := h
  simp only [rightHex, Bool.and_eq_true, decide_eq_true_eq] at h'
  simp only [unhexOf, h, if_true]
  exact right_hex t h'.1 h'.2
theorem hexOf_len (s : List UInt8) : (hexOf s).length = 2 * s.length := by
  induction s with
  | nil => rfl
  | cons c r ih => simp only [hexOf, List.flatMap_cons, List.length_append] at ih ⊢; rw [ih]; simp [hex2]; omega
theorem unp_len : ∀ t : List UInt8, (unp t).length ≤ t.length
  | [] => by simp [unp]
  | [a] => by simp [unp]
  | a :: b :: r => by have := unp_len r; simp [unp]; omega
theorem unhexOf_len (t : List UInt8) : (unhexOf t).length ≤ t.length := by
  unfold unhexOf
  split
  · exact unp_len t
  · simp

set_option maxRecDepth 100000 in
set_option maxHeartbeats 2000000 in
theorem digits_any (s t : List UInt8) (w : World) (hs : s.length ≤ 140737488351232) (ht : t.length ≤ 140737488351232) :
    Calls Try.prog 8 #[Str s, Str t] w fun e w' => e = .returned (.bool true) ∧ Step [] [] w w' := by
  by_cases hout : 2000 < s.length ∨ 2000 < t.length
  · have hcase : (2000 : Int) < s.length ∨ (¬ (2000 : Int) < s.length ∧ (2000 : Int) < t.length) := by omega
    clear hout
    rcases hcase with h1 | ⟨h1, h2⟩
    all_goals
      go_enter Try.func8, Try.ntmps8
      go_wp2_with fail
      refine (awake_true w).mono ?_
      rintro e w1 ⟨rfl, k1⟩
      go_wp2_with fail
      go_ret
      exact ⟨rfl, k1⟩
  · have hs0 : s.length ≤ 2000 := by omega
    have ht0 : t.length ≤ 2000 := by omega
    have hs1 : ¬ (2000 : Int) < s.length := by omega
    have ht1 : ¬ (2000 : Int) < t.length := by omega
    clear hout
    obtain ⟨h, hh⟩ : ∃ h, h = hexOf s := ⟨_, rfl⟩
    obtain ⟨u, hu⟩ : ∃ u, u = unhexOf t := ⟨_, rfl⟩
    have HU := Lib.hid hu
    have HH := Lib.hid hh
    have hhl : h.length ≤ 4000 := by rw [hh, hexOf_len]; omega
    have hul : u.length ≤ 2000 := by rw [hu]; exact Nat.le_trans (unhexOf_len t) ht0
    clear hh hu
    go_enter Try.func8, Try.ntmps8
    go_wp2_with fail
    refine (awake_true w).mono ?_
    rintro e w1 ⟨rfl, k1⟩
    have K1 := Lib.hid k1
    clear k1
    go_wp2_with fail
    refine (hex_any s _ (by omega)).mono ?_
    rintro e w2 ⟨rfl, k2⟩
    have K2 := Lib.hid (K1.out.trans k2)
    clear k2
    rw [← HH.out]
    go_wp2_with fail
    refine (unhex_any h _ (by omega)).mono ?_
    rintro e w3 ⟨rfl, k3⟩
    have K3 := Lib.hid (K2.out.trans k3)
    clear k3
    have e1 : rightHex h = true := by rw [HH.out]; exact (unhex_hex s).1
    have e2 : unhexOf h = s := by rw [HH.out]; exact (unhex_hex s).2
    rw [e1, e2]
    clear e1 e2
    go_wp2_with fail
    refine (unhex_any t _ (by omega)).mono ?_
    rintro e w4 ⟨rfl, k4⟩
    have K4 := Lib.hid (K3.out.trans k4)
    clear k4
    rw [← HU.out]
    obtain ⟨r, hr⟩ : ∃ r, r = rightHex t := ⟨_, rfl⟩
    rw [← hr]
    have HRR := Lib.hid hr
    clear hr
    go_upto_region 8 with fail
    go_cut [48] (fun c wx => c = .bool false ∧ Hid (Step [] [] w wx))
    case first =>
      cases r with
      | false =>
        have h0 : u = [] := by rw [HU.out]; simp [unhexOf, ← HRR.out]
        subst h0
        go_wp2_with fail
        go_meet
        case rel => exact ⟨rfl, K4⟩
      | true =>
        go_wp2_with fail
        refine (refHex_any u _ (by omega)).mono ?_
        rintro e w5 ⟨rfl, k5⟩
        have K5 := Lib.hid (K4.out.trans k5)
        clear k5
        have e1 : hexOf u = t := by rw [HU.out]; exact hex_unhex t HRR.out.symm
        rw [e1]
        clear e1
        go_wp2_with fail
        go_meet
        case rel => exact ⟨rfl, K5⟩
    case rest =>
      rename World => W5
      obtain ⟨rfl, K5⟩ := hcut
      clear K1 K2 K3 K4
      obtain ⟨b0, hb0⟩ : ∃ b0, b0 = decide (t.length % 2 = 0) := ⟨_, rfl⟩
      have hb1 : ((t.length : Int) % 2 == 0) = b0 := by
        rw [hb0, Bool.eq_iff_iff, beq_iff_eq, decide_eq_true_eq]; omega
      have HB0 := Lib.hid hb0
      clear hb0
      go_upto_block 0 with fail
      go_cut [10] (fun c wx => c = .bool r ∧ Hid (Step [] [] w wx))
      case first =>
        go_wp2_with fail
        go_loopw [10, 11] (fun c i wr => ∃ (k : Nat) (b : Bool), k ≤ t.length ∧ i = .int .i64 k ∧ c = .bool b ∧ Hid (b = (b0 && (t.take k).all isHex) ∧ Step [] [] w wr))
          (fun _ i _ => t.length - (intOf i).toNat)
        case atStart => exact ⟨0, b0, by omega, rfl, rfl, by simp, K5.out⟩
        case round =>
          obtain ⟨k, b, hk, rfl, rfl, HW⟩ := hrel
          clear hb1
          by_cases hlt : k < t.length
          · have hlt' : (k : Int) < t.length := by omega
            obtain ⟨x, hx⟩ : ∃ x, t[k] = x := ⟨_, rfl⟩
            have htk : t.take (k + 1) = t.take k ++ [x] := by
              rw [List.take_add_one, List.getElem?_eq_getElem hlt, hx]; simp
            have HT := Lib.hid htk
            clear htk
            cases b with
            | false =>
              go_wp2_with fail
              go_roundw
              case rel =>
                refine ⟨k + 1, false, by omega, by go_num, rfl, ?_, HW.out.2⟩
                rw [HT.out, List.all_append, ← Bool.and_assoc, ← HW.out.1]; rfl
              case measure => simp [intOf]; omega
            | true =>
              have hc : ∃ q : Bool, isHex x = q := ⟨_, rfl⟩
              have hcase : (¬ (48 : Int) ≤ x.toNat ∧ ¬ (97 : Int) ≤ x.toNat) ∨ ((48 : Int) ≤ x.toNat ∧ (x.toNat : Int) ≤ 57) ∨ ((48 : Int) ≤ x.toNat ∧ ¬ (x.toNat : Int) ≤ 57 ∧ ¬ (97 : Int) ≤ x.toNat) ∨ ((48 : Int) ≤ x.toNat ∧ ¬ (x.toNat : Int) ≤ 57 ∧ (97 : Int) ≤ x.toNat ∧ (x.toNat : Int) ≤ 102) ∨ ((48 : Int) ≤ x.toNat ∧ ¬ (x.toNat : Int) ≤ 57 ∧ (97 : Int) ≤ x.toNat ∧ ¬ (x.toNat : Int) ≤ 102) := by omega
              rcases hcase with ⟨c1, c2⟩ | ⟨c1, c2⟩ | ⟨c1, c2, c3⟩ | ⟨c1, c2, c3, c4⟩ | ⟨c1, c2, c3, c4⟩
              all_goals
                go_wp2_with fail
                go_roundw
                case rel =>
                  refine ⟨k + 1, _, by omega, by go_num, rfl, ?_, HW.out.2⟩
                  rw [HT.out, List.all_append, ← Bool.and_assoc, ← HW.out.1]
                  simp [isHex]
                  try omega
                case measure => simp [intOf]; omega
          · obtain rfl : k = t.length := by omega
            go_wp2_with fail
            go_meet
            case rel =>
              refine ⟨?_, HW.out.2⟩
              have := HW.out.1
              rw [List.take_length, HB0.out] at this
              rw [this, HRR.out]
              rfl
      case rest =>
        obtain ⟨rfl, K6⟩ := hcut
        clear hb1
        go_wp2_with fail
        refine (refHex_any s _ (by omega)).mono ?_
        rintro e w6 ⟨rfl, k6⟩
        have K7 := Lib.hid (K6.out.trans k6)
        clear k6
        rw [← HH.out]
        go_wp2_with fail
        go_ret
        exact ⟨rfl, K7.out⟩

theorem HashDigits_walk (v0 v1 : Value) (w : World) {b0 b1 : Nat} (hv0 : Value.okWide Try.prog w .any b0 9 v0) (h0 : Op Try.prog w 9 v0.cells.toList) (hv1 : Value.okWide Try.prog w .any b1 9 v1) (h1 : Op Try.prog w 9 v1.cells.toList) :
    Calls Try.prog 8 #[v0, v1] w fun e w' => e = .returned (.bool true) ∧ Below w.heap.size w w' := by
  obtain ⟨s, rfl⟩ := okWide_string Try.underlying9 hv0
  obtain ⟨t, rfl⟩ := okWide_string Try.underlying9 hv1
  obtain ⟨l, e, hl⟩ := h0.str Try.underlying9
  simp [Value.cells] at e
  subst e
  obtain ⟨m, e, hm⟩ := h1.str Try.underlying9
  simp [Value.cells] at e
  subst e
  exact (digits_any l m w hl hm).mono fun e w' ⟨he, k⟩ => ⟨he, k.below0⟩

set_option maxRecDepth 100000 in
theorem HashDigits_lifted (os : Os) (started : os.Started) (H : Type) (enc : TypeId × Value → H) :
    ReturnsInHanded {} Try.checked os 8 .any (Rows.hashDigitsSpec.pre6 enc Try.prog Try.f8 Rows.hashDigitsRow.domain false) (Rows.hashDigitsSpec.post enc Try.prog Try.f8 false true false false) := by
  refine returnsInHanded_of_change_sized (C := Try.checked) (by kernel_rfl) started (by kernel_rfl) Try.func8
    (ChangeSpec.witness6 (enc := enc) (C := Try.checked) false ⟨#[], #[Str [], Str []], []⟩ 8 (by kernel_rfl) (by kernel_rfl) (by kernel_rfl) (by kernel_rfl)) ?_
  intro W base args ds gs before hval0 hW hcnd hsz0 _
  have hval : ∀ (j : Nat) t v, Try.f8.params[j]? = some t → args[j]? = some v → Value.okWide Try.prog W .any base t v := hval0
  have hsz : (DataW.weightsEach Try.prog (Try.f8.params.toList ++ Rows.hashDigitsSpec.plain.varTypes Try.prog) (ds ++ gs)).all (· ≤ reachBytes) = true := hsz0
  have hW' := hW
  obtain ⟨p, q, hA0, hV, rfl, hfz, hnd⟩ := hW
  have hA : DataW.TrodAll enc Try.prog W 0 (fun _ => true) true Try.f8.params.toList args.toList ds p := hA0
  rw [Try.params8] at hA hval hsz
  obtain ⟨v0, vs0, d0, ds0, p0, q0, hargs, rfl, rfl, h0, r0⟩ := trodAll_cons hA
  obtain ⟨v1, vs1, d1, ds1, p1, q1, rfl, rfl, rfl, h1, r1⟩ := trodAll_cons r0
  obtain ⟨rfl, rfl, rfl⟩ := trodAll_nil r1
  obtain rfl : args = #[v0, v1] := by cases args; simp_all
  obtain ⟨rfl, rfl⟩ := trodVars_none hV
  have lt0 : ∀ x ∈ p0, x.block < W.heap.size := by obtain ⟨m, hm⟩ := h0; exact DataW.trod_lt m _ _ _ hm
  have o0 := op_of hsz (j := 0) rfl rfl h0
  have lt1 : ∀ x ∈ p1, x.block < W.heap.size := by obtain ⟨m, hm⟩ := h1; exact DataW.trod_lt m _ _ _ hm
  have o1 := op_of hsz (j := 1) rfl rfl h1
  refine (HashDigits_walk v0 v1 W (hval 0 _ v0 rfl rfl) o0 (hval 1 _ v1 rfl rfl) o1).mono fun e W' ⟨he, bel⟩ => ?_
  subst he
  exact ⟨_, rfl, _, _, _, [], _, [], hW', trodAll_mk1 (shut_bool Try.underlying4 _), (trodAll_cons_mk (Below.trod (by kernel_rfl) (by kernel_rfl) (of_decide_eq_true (by kernel_rfl)) h0 bel lt0) (trodAll_cons_mk (Below.trod (by kernel_rfl) (by kernel_rfl) (of_decide_eq_true (by kernel_rfl)) h1 bel lt1) trodAll_mk0)), rfl, bel.frame _, fun h => by cases h⟩

/-- The statement. -/
theorem HashDigits_holds : Rows.HashDigitsSaid :=
  OpenClaim.holds_of_wide 8 Try.f8 rfl rfl rfl rfl rfl rfl rfl ⟨rfl, rfl, rfl, rfl, rfl⟩ rfl rfl rfl rfl rfl (by kernel_rfl) Try.func8 (by kernel_rfl)
    (of_decide_eq_true (by kernel_rfl)) (by unfold Func.isWrapper; rw [if_neg (of_decide_eq_false (by kernel_rfl))]; exact ⟨rfl, rfl⟩)
    (fun os started H enc _ => HashDigits_lifted os started H enc)
#print axioms HashDigits_holds
end Go.Proofs.Ytdolfccnlnhngaa
