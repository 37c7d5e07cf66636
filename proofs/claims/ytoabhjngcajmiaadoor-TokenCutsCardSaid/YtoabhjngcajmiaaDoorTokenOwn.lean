/-
  token.Mint, and the reference's. Conditions: texts of at most 2^40 bytes; utf8's tables as Go lays them.
-/
import Derived.Test.YtoabhjngcajmiaaDoorTokenPlain
import Derived.Test.YtoabhjngcajmiaaDoorPackW2
import Derived.Test.YtoabhjngcajmiaaDoorPackRefR
import Derived.Test.YtoabhjngcajmiaaDoorHashRefMac
import Derived.Test.YtoabhjngcajmiaaDoorNameOwnRight
import Derived.Test.YtoabhjngcajmiaaDoorNameRefL
namespace Go.Proofs.YtoabhjngcajmiaaDoor
open Go.RowKit Go.Lib
set_option linter.unusedSimpArgs false
set_option linter.unusedVariables false

theorem wput_ok (b s : List UInt8) (h : b.length + s.length ≤ 2097152) : wput ⟨b, 0⟩ s = ⟨b ++ s, 0⟩ := by
  simp only [wput]
  rw [if_neg (by simp), if_neg (by omega)]
theorem wnum_ok (b : List UInt8) (n : Int) (h0 : 0 ≤ n) (h1 : n ≤ 4611686018427387903) (h : b.length + (numB n.toNat).length ≤ 2097152) : wnum ⟨b, 0⟩ n = ⟨b ++ numB n.toNat, 0⟩ := by
  unfold wnum
  rw [if_neg (by simp; omega), wput_ok _ _ h]
theorem wtext_ok (b s : List UInt8) (h : b.length + ((numB s.length).length + s.length) ≤ 2097152) : wtext ⟨b, 0⟩ s = ⟨b ++ (numB s.length ++ s), 0⟩ := by
  unfold wtext
  rw [wput_ok _ _ (by rw [List.length_append]; omega)]
theorem body_ws (user : List UInt8) (rev : Int) (h1 : user.length ≤ 96) (h2 : 1 ≤ rev) (h3 : rev ≤ 1099511627776) : wnum (wtext (wnum ⟨[], 0⟩ 1) user) rev = ⟨bodyL user rev, 0⟩ := by
  have n1 := numB_len 1 (by omega)
  have n2 := numB_len user.length (by omega)
  have n3 := numB_len rev.toNat (by omega)
  rw [wnum_ok [] 1 (by omega) (by omega) (by simp; omega), wtext_ok _ _ (by simp; omega), wnum_ok _ _ (by omega) (by omega) (by simp; omega)]
  simp [bodyL]
theorem mint_ws (secret user : List UInt8) (rev : Int) (h0 : rightL user = true) (h2 : 1 ≤ rev) (h3 : rev ≤ 1099511627776) : wtext ⟨bodyL user rev, 0⟩ (macOf secret (bodyL user rev)) = ⟨mintL secret user rev, 0⟩ := by
  have h1 := (right_len user h0).2
  have n1 := body_len user rev h1 h3
  have n2 := mac_len secret (bodyL user rev)
  have n3 := numB_len 32 (by omega)
  rw [wtext_ok _ _ (by rw [n2]; omega), n2]
  unfold mintL
  rw [if_pos ⟨h0, h2, h3⟩]
theorem mint_not (secret user : List UInt8) (rev : Int) (h : ¬ (rightL user = true ∧ 1 ≤ rev ∧ rev ≤ 1099511627776)) : mintL secret user rev = [] := by
  unfold mintL
  rw [if_neg h]

set_option maxHeartbeats 1000000 in
theorem mint_any (secret user : List UInt8) (rev : Int) (w : World) (hs : secret.length ≤ 1099511627776) (hu : user.length ≤ 1099511627776) (hT : Tabs w) :
    Calls Tryd.prog 9 #[Str secret, Str user, .int .i64 rev] w fun e w' => e = .returned (Str (mintL secret user rev)) ∧ Step [] [] w w' := by
  have HT := Lib.hid hT
  clear hT
  go_enter Tryd.func9, Tryd.ntmps9
  go_wp2_with fail
  refine (right_any user w hu HT.out).mono ?_
  rintro e w1 ⟨rfl, h1⟩
  have H1 := Lib.hid h1
  clear h1
  cases hr : rightL user with
  | false =>
    have HM := Lib.hid (mint_not secret user rev (by rw [hr]; simp))
    clear hr
    go_wp2_with fail
    go_ret
    exact ⟨by rw [HM.out]; try rfl, H1.out⟩
  | true =>
    by_cases hr1 : rev < 1
    · have HM := Lib.hid (mint_not secret user rev (by omega))
      clear hr
      go_wp2_with fail
      go_ret
      exact ⟨by rw [HM.out]; try rfl, H1.out⟩
    · by_cases hr2 : 1099511627776 < rev
      · have HM := Lib.hid (mint_not secret user rev (by omega))
        clear hr
        go_wp2_with fail
        go_ret
        exact ⟨by rw [HM.out]; try rfl, H1.out⟩
      · have hl := right_len user hr
        have hbl := body_len user rev hl.2 (by omega)
        have HB := Lib.hid (body_ws user rev hl.2 (by omega) (by omega))
        have HM := Lib.hid (mint_ws secret user rev hr (by omega) (by omega))
        have hul := hl.2
        have hml := mac_len secret (bodyL user rev)
        have HML := Lib.hid hml
        clear hr hl hml
        go_wp2_with fail
        refine (num_any w1.heap.size [w1.heap.size] ⟨[], 0⟩ 1 (by omega) _ ⟨none, 0, Blk.new _ _ _, Row.none _ _, by simp [blks], rfl, by simp⟩).mono ?_
        rintro e w2 ⟨rfl, S2, g2, k2⟩
        have H2 := Lib.hid (And.intro g2 (((Step.refl [] w1).hold _).trans k2))
        clear g2 k2
        go_wp2_with fail
        refine (text_any w1.heap.size S2 _ user _ H2.out.1 (by omega)).mono ?_
        rintro e w3 ⟨rfl, S3, g3, k3⟩
        have H3 := Lib.hid (And.intro g3 (H2.out.2.trans k3))
        clear g3 k3
        go_wp2_with fail
        refine (num_any w1.heap.size S3 _ rev (by omega) _ H3.out.1).mono ?_
        rintro e w4 ⟨rfl, S4, g4, k4⟩
        have H4 := Lib.hid (And.intro g4 (H3.out.2.trans k4))
        clear g4 k4
        rw [HB.out] at H4
        go_wp2_with fail
        refine (bytes_any w1.heap.size S4 _ _ H4.out.1).mono ?_
        rintro e w5 ⟨rfl, k5⟩
        have H5 := Lib.hid (And.intro (H4.out.1.step k5 (by simp)) (H4.out.2.trans (k5.keep _)))
        clear k5
        have hwb : wbytes ⟨bodyL user rev, 0⟩ = (bodyL user rev, 0) := by simp [wbytes]
        rw [hwb]
        clear hwb
        go_wp2_with fail
        refine (mac_any secret (bodyL user rev) _ hs (by omega)).mono ?_
        rintro e w6 ⟨rfl, k6⟩
        have H6 := Lib.hid (And.intro (H5.out.1.step k6 (by simp)) (H5.out.2.trans (k6.keep _)))
        clear k6
        go_wp2_with fail
        refine (text_any w1.heap.size S4 _ (macOf secret (bodyL user rev)) _ H6.out.1 (by rw [HML.out]; omega)).mono ?_
        rintro e w7 ⟨rfl, S7, g7, k7⟩
        have H7 := Lib.hid (And.intro g7 (H6.out.2.trans k7))
        clear g7 k7
        rw [HM.out] at H7
        go_wp2_with fail
        refine (bytes_any w1.heap.size S7 _ _ H7.out.1).mono ?_
        rintro e w8 ⟨rfl, k8⟩
        have hwb : wbytes ⟨mintL secret user rev, 0⟩ = (mintL secret user rev, 0) := by simp [wbytes]
        rw [hwb]
        clear hwb
        go_wp2_with fail
        go_ret
        exact ⟨rfl, H1.out.trans ((H7.out.2.trans (k8.keep _)).drop (by simp))⟩

set_option maxHeartbeats 1000000 in
theorem refMint_any (secret user : List UInt8) (rev : Int) (w : World) (hs : secret.length ≤ 1099511627776) (hu : user.length ≤ 1099511627776) :
    Calls Tryd.prog 10 #[Str secret, Str user, .int .i64 rev] w fun e w' => e = .returned (Str (mintL secret user rev)) ∧ Step [] [] w w' := by
  go_enter Tryd.func10, Tryd.ntmps10
  go_wp2_with fail
  refine (refRight_any user w hu).mono ?_
  rintro e w1 ⟨rfl, rfl⟩
  cases hr : rightL user with
  | false =>
    have HM := Lib.hid (mint_not secret user rev (by rw [hr]; simp))
    clear hr
    go_wp2_with fail
    go_ret
    exact ⟨by rw [HM.out]; try rfl, Step.refl _ _⟩
  | true =>
    by_cases hr1 : rev < 1
    · have HM := Lib.hid (mint_not secret user rev (by omega))
      clear hr
      go_wp2_with fail
      go_ret
      exact ⟨by rw [HM.out]; try rfl, Step.refl _ _⟩
    · by_cases hr2 : 1099511627776 < rev
      · have HM := Lib.hid (mint_not secret user rev (by omega))
        clear hr
        go_wp2_with fail
        go_ret
        exact ⟨by rw [HM.out]; try rfl, Step.refl _ _⟩
      · have hl := right_len user hr
        have hul := hl.2
        obtain ⟨a, ha⟩ : ∃ a, numB 1 = a := ⟨_, rfl⟩
        obtain ⟨b, hb⟩ : ∃ b, numB user.length = b := ⟨_, rfl⟩
        obtain ⟨c, hc⟩ : ∃ c, numB rev.toNat = c := ⟨_, rfl⟩
        obtain ⟨d, hd⟩ : ∃ d, numB 32 = d := ⟨_, rfl⟩
        have la := numB_len 1 (by omega)
        have lb := numB_len user.length (by omega)
        have lc := numB_len rev.toNat (by omega)
        have ld := numB_len 32 (by omega)
        rw [ha] at la
        rw [hb] at lb
        rw [hc] at lc
        rw [hd] at ld
        have HM : Hid (mintL secret user rev = a ++ (b ++ (user ++ (c ++ (d ++ macOf secret (a ++ (b ++ (user ++ c)))))))) := by
          show _ = _
          have hbo : bodyL user rev = a ++ (b ++ (user ++ c)) := by rw [bodyL, ha, hb, hc]; simp [List.append_assoc]
          unfold mintL
          rw [if_pos ⟨hr, by omega, by omega⟩, hbo, hd]
          simp [List.append_assoc]
        have c1 := refNumber_any 1 (by omega)
        have c2 := refNumber_any (user.length : Int) (by omega)
        have c3 := refNumber_any rev (by omega)
        have c4 := refNumber_any 32 (by omega)
        rw [show (1 : Int).toNat = 1 from rfl, ha] at c1
        rw [Int.toNat_natCast, hb] at c2
        rw [hc] at c3
        rw [show (32 : Int).toNat = 32 from rfl, hd] at c4
        have C := Lib.hid (And.intro c1 (And.intro c2 (And.intro c3 c4)))
        have q5 : (macOf secret (a ++ (b ++ (user ++ c)))).length ≤ 32 := by rw [mac_len]; omega
        clear ha hb hc hd c1 c2 c3 c4 hr hl
        go_wp2_with fail
        refine (C.out.1 _).mono ?_
        rintro e w2 ⟨rfl, k2⟩
        have H2 := Lib.hid k2
        clear k2
        go_wp2_with fail
        refine (C.out.2.1 _).mono ?_
        rintro e w3 ⟨rfl, k3⟩
        have H3 := Lib.hid (H2.out.trans k3)
        clear k3
        go_wp2_with fail
        refine (C.out.2.2.1 _).mono ?_
        rintro e w4 ⟨rfl, k4⟩
        have H4 := Lib.hid (H3.out.trans k4)
        clear k4
        go_wp2_with fail
        refine (C.out.2.2.2 _).mono ?_
        rintro e w5 ⟨rfl, k5⟩
        have H5 := Lib.hid (H4.out.trans k5)
        clear k5
        go_wp2_with fail
        refine (refMac_any secret (a ++ (b ++ (user ++ c))) _ hs (by simp; omega)).mono ?_
        rintro e w6 ⟨rfl, k6⟩
        have H6 := Lib.hid (H5.out.trans k6)
        clear k6
        go_wp2_with fail
        go_ret
        exact ⟨by rw [HM.out]; try rfl, H6.out⟩
end Go.Proofs.YtoabhjngcajmiaaDoor
