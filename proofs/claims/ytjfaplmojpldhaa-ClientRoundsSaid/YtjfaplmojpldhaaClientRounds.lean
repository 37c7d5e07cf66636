/-
  ClientRounds: an open request goes to each node within size times patience and one Ticks, wherever it began, and never to any other. No condition beyond the row's.
-/
import Derived.Test.YtjfaplmojpldhaaCliPlain
import Derived.Test.YtjfaplmojpldhaaCliNote
import Derived.Test.YtjfaplmojpldhaaOpen
import Derived.Test.YtjfaplmojpldhaaRows
namespace Go.Proofs.Ytjfaplmojpldhaa
open Go.RowKit Go.Lib Go.ChangeShapes Go.WideShapes Go.ChangeAt
set_option linter.unusedSimpArgs false
set_option linter.unusedVariables false
set_option maxRecDepth 100000

theorem round_cmb (n p : Int) : CmB (askX (newC 2 n p) roundX) := by
  have : askX (newC 2 n p) roundX = roundY := rfl
  rw [this]
  exact ⟨by decide, by decide, by decide, by decide, by decide, by decide, by decide, by decide, by decide, by decide, by decide, by decide, by simp [roundY], by simp [roundY], by simp [roundY]⟩
theorem noteB_len (e l : Int) : (noteB e l).length ≤ 27 := by
  cases h1 : okNum e with
  | false => rw [noteB_bad (.inl h1)]; simp
  | true =>
    cases h2 : okNum l with
    | false => rw [noteB_bad (.inr h2)]; simp
    | true =>
      rw [noteB_ok h1 h2]
      have a1 := okNum_iff.1 h1
      have a2 := okNum_iff.1 h2
      have b1 := numB_len e.toNat (by omega)
      have b2 := numB_len l.toNat (by omega)
      have b3 := numB_len 0 (by omega)
      simp only [List.length_append]
      omega
theorem tick_ans (k : Ct) : (tickC k).1.ans = k.ans := by
  unfold tickC
  repeat' split
  all_goals rfl
theorem len_ints (xs : List Int) : (xs.map (fun x => Value.int .i64 x)).length = xs.length := by simp
theorem decN_lt {i n : Nat} (h : i < n) : decide ((i : Int) < n) = true := decide_eq_true (by omega)
theorem decN_ge {i n : Nat} (h : ¬ i < n) : decide ((i : Int) < n) = false := decide_eq_false (by omega)
theorem list8 (bs : List Bool) (h : bs.length = 8) : ∃ x0 x1 x2 x3 x4 x5 x6 x7, bs = [x0, x1, x2, x3, x4, x5, x6, x7] := by
  match bs, h with
  | [x0, x1, x2, x3, x4, x5, x6, x7], _ => exact ⟨x0, x1, x2, x3, x4, x5, x6, x7, rfl⟩
set_option maxHeartbeats 16000000 in
theorem rounds24_any (z q : Nat) (xs : List Int) (a : Option Addr) (cap : Nat) (w : World) (hz : z ≤ 255) (hq : q ≤ 255) (hr : Rd w 1 a xs.length (xs.map (fun x => Value.int .i64 x))) (hl : xs.length ≤ 9223372036854775807) (hx : ∀ x ∈ xs, x < 9223372036854775808) :
    Calls Try.prog 4 #[.int .u8 (z : Int), .int .u8 (q : Int), .slice a xs.length cap] w fun x w' => x = .returned (.bool true) ∧ Step [] [] w w' := by
  have HR := Lib.hid (And.intro hr (And.intro hl hx))
  clear hr hl hx
  go_enter Try.func4, Try.ntmps4
  go_wp2_with fail
  refine (awake24_true _).mono ?_
  rintro x w1 ⟨rfl, k1⟩
  have H1 : Hid (Step [] [] w w1) := Lib.hid k1
  clear k1
  go_upto_region 4 with fail
  obtain ⟨N, hN⟩ : ∃ N : Nat, (N : Int) = 1 + (z : Int) % 7 := ⟨1 + z % 7, by omega⟩
  obtain ⟨P, hP⟩ : ∃ P : Nat, (P : Int) = 1 + (q : Int) % 100 := ⟨1 + q % 100, by omega⟩
  rw [← hN, ← hP]
  have HNP : Hid ((1 ≤ N ∧ N ≤ 7) ∧ 1 ≤ P ∧ P ≤ 100) := Lib.hid (by omega)
  clear hN hP hz hq
  go_wp2_with fail
  refine (new_any 2 (N : Int) (P : Int) w1).mono ?_
  rintro e w2 ⟨h1 | h1, k1⟩
  · obtain ⟨_, rfl, g1⟩ := h1
    obtain ⟨b, hb⟩ : ∃ b, b = w1.heap.size := ⟨_, rfl⟩
    rw [← hb] at g1 ⊢
    have H2 : Hid (Blk w2 b 95 (ctc (newC 2 N P) (.slice none 0 0)).toArray ∧ Step [] [b] w w2 ∧ b < w2.heap.size) := Lib.hid ⟨g1, H1.out.trans ⟨k1.os, k1.tape, k1.output, k1.size, k1.block, fun g hg => by simp at hg; subst hg; exact .inr (by omega)⟩, g1.lt⟩
    clear k1 g1 hb H1
    by_cases hg : (100 : Int) < xs.length
    · have hgd : decide ((100 : Int) < xs.length) = true := decide_eq_true hg
      go_wp2_with fail
      exact bodyPost_ret (results_tmp rfl _ _ _) rfl ⟨rfl, H2.out.2.1.drop (by simp)⟩
    · have hgd : decide ((100 : Int) < xs.length) = false := decide_eq_false hg
      go_upto_region 7 with fail
      clear hg hgd
      go_wp2_with fail
      refine (ask_any (newC 2 N P) (.slice none 0 0) b roundX none none none 0 0 0 w2 H2.out.1 (newC_b (okNew_iff.2 ⟨by omega, by have := HNP.out; omega, by have := HNP.out; omega⟩)) (RdC.nil w2 roundX rfl rfl rfl) (round_cmb N P) ⟨by decide, by decide, by decide⟩).mono ?_
      rintro e w3 ⟨rfl, g3, k3⟩
      rw [round_ask] at g3 ⊢
      have H3 : Hid (∃ (s : Value) (k : Ct), Blk w3 b 95 (ctc k s).toArray ∧ Step [] [b] w w3 ∧ AnsAt w3 [b] s k.ans ∧ b < w3.heap.size ∧ Live k N P ∧ CtB k) := Lib.hid ⟨_, _, g3, H2.out.2.1.trans k3, AnsAt.zero _ _, Nat.lt_of_lt_of_le H2.out.2.2 k3.size, ⟨rfl, rfl, rfl, rfl⟩, ⟨by simp [newC], by have := HNP.out; simp only [newC]; omega, by have := HNP.out; simp only [newC]; omega, by simp [newC], by have := HNP.out; simp only [newC]; omega, by have := HNP.out; simp only [newC]; omega, by simp [newC]⟩⟩
      clear g3 k3 H2
      obtain ⟨es, hes⟩ : ∃ es, es = roundS := ⟨_, rfl⟩
      rw [← hes]
      have HE := Lib.hid hes
      clear hes
      go_wp2_with fail
      go_loopw [57] (fun v W => ∃ (i : Nat) (s : Value) (k : Ct), i ≤ xs.length ∧ v = .int .i64 i ∧ Hid (Blk W b 95 (ctc k s).toArray ∧ Step [] [b] w W ∧ AnsAt W [b] s k.ans ∧ b < W.heap.size ∧ Live k N P ∧ CtB k)) (fun v _ => xs.length - (intOf v).toNat)
      case atStart => obtain ⟨s9, k9, H9⟩ := H3.out; exact ⟨0, s9, k9, by omega, rfl, Lib.hid H9⟩
      case round =>
        clear H3
        rename World => W
        obtain ⟨i, s, k, hi, rfl, HW⟩ := hrel
        by_cases h7 : i < xs.length
        · have hlt' : (i : Int) < xs.length := by omega
          have hxl := HR.out.2.1
          obtain ⟨x, hx⟩ : ∃ x, xs[i]? = some x := ⟨_, List.getElem?_eq_getElem h7⟩
          have HX : Hid (x < 9223372036854775808) := Lib.hid (HR.out.2.2 x (List.mem_of_getElem? hx))
          obtain ⟨g, off, hsa⟩ := (HR.out.1.step0 HW.out.2.1).some_ (by omega)
          have cd : W.cell? ⟨g, off + i, none⟩ = some (.int .i64 x) := (HR.out.1.step0 HW.out.2.1).cell g off none hsa i _ (by rw [List.getElem?_map, hx]; rfl)
          have gl : g < W.heap.size := by have := World.block_lt_of_cell? _ _ cd; simpa using this
          have HSA := Lib.hid hsa
          rw [hsa]
          clear hsa hx
          go_wp2_with fail
          refine (lnote_any 20 x W (by omega) HX.out).mono ?_
          rintro e W1 ⟨rfl, k1⟩
          have H4 : Hid (Blk W1 b 95 (ctc k s).toArray ∧ Step [] [b] w W1 ∧ AnsAt W1 [b] s k.ans ∧ b < W1.heap.size ∧ Live k N P ∧ CtB k) := Lib.hid ⟨HW.out.1.step k1 (by simp), HW.out.2.1.trans (k1.keep [b]), HW.out.2.2.1.step k1 (by simp), Nat.lt_of_lt_of_le HW.out.2.2.2.1 k1.size, HW.out.2.2.2.2⟩
          clear k1 cd gl HW
          go_wp2_with fail
          refine (hear_any k s b [b] (noteB 20 x) W1 H4.out.1 ⟨by simp, by have := H4.out.2.2.2.1; simpa using this⟩ H4.out.2.2.1 (Nat.le_trans (noteB_len 20 x) (by omega))).mono ?_
          rintro e W2 ⟨s', rfl, g2, k2, n2⟩
          obtain ⟨l1, l2⟩ := H4.out.2.2.2.2.1.hear x
          rw [l2]
          have H5 : Hid (∃ (s : Value) (k : Ct), Blk W2 b 95 (ctc k s).toArray ∧ Step [] [b] w W2 ∧ AnsAt W2 [b] s k.ans ∧ b < W2.heap.size ∧ Live k N P ∧ CtB k) := Lib.hid ⟨_, _, g2, H4.out.2.1.trans k2, n2, Nat.lt_of_lt_of_le H4.out.2.2.2.1 k2.size, l1, hearC_b H4.out.2.2.2.2.2⟩
          clear g2 k2 n2 l1 l2 H4
          clear s k
          obtain ⟨s, k, H6⟩ := H5.out
          have H6 := Lib.hid H6
          clear H5
          go_wp2_with fail
          refine (tick_any k s b W2 H6.out.1 H6.out.2.2.2.2.2).mono ?_
          rintro e W3 ⟨rfl, g7, k7⟩
          obtain ⟨l1, l2⟩ := H6.out.2.2.2.2.1.tick H6.out.2.2.2.2.2
          have H7 : Hid (∃ (s : Value) (k : Ct), Blk W3 b 95 (ctc k s).toArray ∧ Step [] [b] w W3 ∧ AnsAt W3 [b] s k.ans ∧ b < W3.heap.size ∧ Live k N P ∧ CtB k) := Lib.hid ⟨_, _, g7, H6.out.2.1.trans k7, (by rw [tick_ans]; exact H6.out.2.2.1.step k7 (by simp)), Nat.lt_of_lt_of_le H6.out.2.2.2.1 k7.size, l1, tickC_b H6.out.2.2.2.2.2⟩
          clear g7 k7 l1 H6
          obtain ⟨r, hr⟩ : ∃ r, r = (tickC k).2 := ⟨_, rfl⟩
          rw [← hr] at l2 ⊢
          clear hr
          rw [← HE.out] at l2
          rcases l2 with ⟨t, ht1, ht2, rfl⟩ | rfl
          · have t1 : decide ((t : Int) < 1) = false := decide_eq_false (by omega)
            have t2 : decide ((N : Int) < (t : Int)) = false := decide_eq_false (by omega)
            go_wp2_with fail
            go_roundw
            case rel => obtain ⟨s9, k9, H9⟩ := H7.out; exact ⟨i + 1, s9, k9, by omega, by go_num, Lib.hid H9⟩
            case measure => simp [intOf]; omega
          · go_wp2_with fail
            go_roundw
            case rel => obtain ⟨s9, k9, H9⟩ := H7.out; exact ⟨i + 1, s9, k9, by omega, by go_num, Lib.hid H9⟩
            case measure => simp [intOf]; omega
        · obtain rfl : i = xs.length := by omega
          clear h7 hi
          go_upto_region 19 with fail
          obtain ⟨mb, hmb⟩ : ∃ m, m = W.heap.size := ⟨_, rfl⟩
          obtain ⟨V, hV⟩ : ∃ V, V = W.alloc (.cells #[.bool false, .bool false, .bool false, .bool false, .bool false, .bool false, .bool false, .bool false] 48) := ⟨_, rfl⟩
          have k1 := (Step.refl [] W).alloc (.cells #[.bool false, .bool false, .bool false, .bool false, .bool false, .bool false, .bool false, .bool false] 48)
          have b1 := Blk.new W 48 #[.bool false, .bool false, .bool false, .bool false, .bool false, .bool false, .bool false, .bool false]
          rw [← hV] at k1 b1 ⊢
          rw [← hmb] at b1 ⊢
          obtain ⟨tg, htg⟩ : ∃ t : Nat, k.target = t := ⟨k.target.toNat, by have := HW.out.2.2.2.2.2.target; omega⟩
          obtain ⟨wt, hwt⟩ : ∃ t : Nat, k.waited = t := ⟨k.waited.toNat, by have := HW.out.2.2.2.2.2.waited; omega⟩
          have HTW : Hid ((1 ≤ tg ∧ tg ≤ N) ∧ wt ≤ P) := Lib.hid (by have := HW.out.2.2.2.2.2.target; have := HW.out.2.2.2.2.2.waited; have := HW.out.2.2.2.2.1.size; have := HW.out.2.2.2.2.1.pat; omega)
          have HNE : Hid (b ≠ mb ∧ w.heap.size ≤ mb) := Lib.hid ⟨by have := HW.out.2.2.2.1; omega, by have := HW.out.2.1.size; omega⟩
          have H8 : Hid (∃ (s : Value) (k : Ct) (bs : List Bool), Blk V b 95 (ctc k s).toArray ∧ Step [] [b] w V ∧ Blk V mb 48 (bs.map Value.bool).toArray ∧ Live k N P ∧ CtB k ∧ AtT k N P tg wt 0 ∧ Met bs N P tg wt 0) := Lib.hid ⟨s, k, [false, false, false, false, false, false, false, false], HW.out.1.step k1 (by simp), HW.out.2.1.trans (k1.keep [b]), b1, HW.out.2.2.2.2.1, HW.out.2.2.2.2.2, atT_zero htg hwt HTW.out.1.1 HTW.out.1.2 HTW.out.2 HNP.out.2.1, rfl, fun j h1 h2 => by omega⟩
          clear k1 b1 hV hmb htg hwt HW
          clear s k
          obtain ⟨L, hL⟩ : ∃ L : Nat, L = N * P := ⟨_, rfl⟩
          have hle : L ≤ 700 := by rw [hL]; exact Nat.mul_le_mul HNP.out.1.2 HNP.out.2.2
          have hLI : (N : Int) * (P : Int) = (L : Int) := by rw [hL]; simp
          have HL := Lib.hid hL
          clear hL
          go_wp2_with fail
          go_loopw [91] (fun v U => ∃ (i : Nat) (s : Value) (k : Ct) (bs : List Bool), i ≤ L + 1 ∧ v = .int .i64 i ∧ Hid (Blk U b 95 (ctc k s).toArray ∧ Step [] [b] w U ∧ Blk U mb 48 (bs.map Value.bool).toArray ∧ Live k N P ∧ CtB k ∧ AtT k N P tg wt i ∧ Met bs N P tg wt i)) (fun v _ => L + 1 - (intOf v).toNat)
          case atStart => obtain ⟨s9, k9, bs9, H9⟩ := H8.out; exact ⟨0, s9, k9, bs9, by omega, rfl, Lib.hid H9⟩
          case round =>
            clear H8
            rename World => U
            obtain ⟨i, s, k, bs, hi, rfl, HW⟩ := hrel
            by_cases h7 : i < L + 1
            · have hlt' : (i : Int) < (L : Int) + 1 := by omega
              go_wp2_with fail
              refine (tick_any k s b U HW.out.1 HW.out.2.2.2.2.1).mono ?_
              rintro e U1 ⟨rfl, g7, k7⟩
              obtain ⟨a1, a2⟩ := atT_tick HW.out.2.2.2.1 HW.out.2.2.2.2.1 HW.out.2.2.2.2.2.1 HTW.out.1.1 HTW.out.1.2 HNP.out.2.1
              obtain ⟨l1, -⟩ := HW.out.2.2.2.1.tick HW.out.2.2.2.2.1
              have H5 : Hid (Blk U1 b 95 (ctc (tickC k).1 s).toArray ∧ Step [] [b] w U1 ∧ Blk U1 mb 48 (bs.map Value.bool).toArray ∧ Live (tickC k).1 N P ∧ CtB (tickC k).1 ∧ AtT (tickC k).1 N P tg wt (i + 1) ∧ Met bs N P tg wt i) := Lib.hid ⟨g7, HW.out.2.1.trans k7, HW.out.2.2.1.step k7 (by have := HNE.out.1; simp; omega), l1, tickC_b HW.out.2.2.2.2.1, a1, HW.out.2.2.2.2.2.2⟩
              clear g7 k7 l1 a1 HW
              rw [a2]
              clear a2
              by_cases hc : (wt + i) % P = 0
              · rw [if_pos hc]
                have HT : Hid (Met (bs.set ((tg - 1 + (wt + i) / P) % N + 1) true) N P tg wt (i + 1)) := Lib.hid (H5.out.2.2.2.2.2.2.hit hc HNP.out.2.1 HNP.out.1.2 HNP.out.1.1)
                have ht2 : (tg - 1 + (wt + i) / P) % N + 1 ≤ N := Nat.mod_lt _ (by have := HNP.out; omega)
                have ht1 : 1 ≤ (tg - 1 + (wt + i) / P) % N + 1 := by omega
                obtain ⟨t, ht⟩ : ∃ t, t = (tg - 1 + (wt + i) / P) % N + 1 := ⟨_, rfl⟩
                rw [← ht] at HT ht1 ht2 ⊢
                clear ht hc
                rw [← HE.out]
                have t1 : decide ((t : Int) < 1) = false := decide_eq_false (by omega)
                have t2 : decide ((N : Int) < (t : Int)) = false := decide_eq_false (by omega)
                have ht7 : t < 8 := by have := HNP.out.1.2; omega
                obtain ⟨y, hy⟩ : ∃ y, bs[t]? = some y := ⟨_, List.getElem?_eq_getElem (by rw [H5.out.2.2.2.2.2.2.1]; exact ht7)⟩
                have m0 : U1.cell? ⟨mb, t, none⟩ = some (.bool y) := by rw [H5.out.2.2.1.cell]; simp [hy]
                have mf := H5.out.2.2.1.frozen t
                have ml := H5.out.2.2.1.lt
                clear hy
                have H9 : Hid (Blk (U1.setCell ⟨mb, t, none⟩ (.bool true)) b 95 (ctc (tickC k).1 s).toArray ∧ Step [] [b] w (U1.setCell ⟨mb, t, none⟩ (.bool true)) ∧ Blk (U1.setCell ⟨mb, t, none⟩ (.bool true)) mb 48 ((bs.set t true).map Value.bool).toArray ∧ Live (tickC k).1 N P ∧ CtB (tickC k).1 ∧ AtT (tickC k).1 N P tg wt (i + 1) ∧ Met (bs.set t true) N P tg wt (i + 1)) := Lib.hid ⟨H5.out.1.far (p := ⟨mb, t, none⟩) HNE.out.1 _, H5.out.2.1.own ((Step.refl [mb] _).setCell (.inl (by simp)) _) HNE.out.2, by have hq := H5.out.2.2.1.set t (.bool true); simpa [List.map_set] using hq, H5.out.2.2.2.1, H5.out.2.2.2.2.1, H5.out.2.2.2.2.2.1, HT.out⟩
                clear H5
                go_wp2_with fail
                go_roundw
                case rel => exact ⟨i + 1, s, _, (bs.set t true), by omega, by go_num, H9⟩
                case measure => simp [intOf]; omega
              · rw [if_neg hc]
                have H9 : Hid (Blk U1 b 95 (ctc (tickC k).1 s).toArray ∧ Step [] [b] w U1 ∧ Blk U1 mb 48 (bs.map Value.bool).toArray ∧ Live (tickC k).1 N P ∧ CtB (tickC k).1 ∧ AtT (tickC k).1 N P tg wt (i + 1) ∧ Met bs N P tg wt (i + 1)) := Lib.hid ⟨H5.out.1, H5.out.2.1, H5.out.2.2.1, H5.out.2.2.2.1, H5.out.2.2.2.2.1, H5.out.2.2.2.2.2.1, H5.out.2.2.2.2.2.2.miss hc⟩
                clear hc H5
                go_wp2_with fail
                go_roundw
                case rel => exact ⟨i + 1, s, _, bs, by omega, by go_num, H9⟩
                case measure => simp [intOf]; omega
            · obtain rfl : i = L + 1 := by omega
              clear h7 hi
              have HM : Hid (Met bs N P tg wt (N * P + 1)) := Lib.hid (by rw [← HL.out]; exact HW.out.2.2.2.2.2.2)
              have H8 : Hid (Step [] [b] w U ∧ Blk U mb 48 (bs.map Value.bool).toArray) := Lib.hid ⟨HW.out.2.1, HW.out.2.2.1⟩
              clear HW
              have hN7 : N ≤ 7 := HNP.out.1.2
              go_wp2_with fail
              go_loopw [22] (fun v X => ∃ j : Nat, 1 ≤ j ∧ j ≤ N + 1 ∧ v = .int .i64 j ∧ Hid (Step [] [b] w X ∧ Blk X mb 48 (bs.map Value.bool).toArray)) (fun v _ => N + 1 - (intOf v).toNat)
              case atStart => exact ⟨1, by omega, by omega, rfl, H8⟩
              case round =>
                clear H8
                rename World => X
                obtain ⟨j, h1, h2, rfl, HX⟩ := hrel
                by_cases h7 : j ≤ N
                · have hlt' : ((j : Nat) : Int) ≤ (N : Int) := by omega
                  have m0 : X.cell? ⟨mb, j, none⟩ = some (.bool true) := by rw [HX.out.2.cell]; have hq := HM.out.all HNP.out.2.1 HNP.out.1.1 HTW.out.2 h1 h7; simp [hq]
                  have ml := HX.out.2.lt
                  have hj8 : j < 8 := by have := HNP.out.1.2; omega
                  go_wp2_with fail
                  go_roundw
                  case rel => exact ⟨j + 1, by omega, by omega, by go_num, HX⟩
                  case measure => simp [intOf]; omega
                · have hlt' : decide ((j : Int) ≤ (N : Int)) = false := decide_eq_false (by omega)
                  go_wp2_with fail
                  exact bodyPost_ret (results_tmp rfl _ _ _) rfl ⟨rfl, HX.out.1.drop (by simp)⟩
  · exact absurd h1.1 (by rw [okNew_iff.2 ⟨by omega, by have := HNP.out; omega, by have := HNP.out; omega⟩]; simp)
theorem u8_in {w : World} {b : Nat} {v : Value} (hv : Value.okWide Try.prog w .any b 5 v) (h : Op Try.prog w 5 v.cells.toList) : ∃ n : Nat, v = .int .u8 (n : Int) ∧ n ≤ 255 := by
  obtain ⟨n, rfl⟩ := okWide_int Try.underlying5 hv
  obtain ⟨n', e1, w1⟩ := h.int Try.underlying5
  have e2 : n = n' := by
    have := congrArg List.head? e1
    simpa [Value.cells] using this
  subst e2
  simp [Lit.wf, IntKind.min, IntKind.max, IntKind.signed, IntKind.bits] at w1
  exact ⟨n.toNat, by rw [Int.toNat_of_nonneg (by omega)], by omega⟩
theorem flat_intsR (ts : List Int) : ts.flatMap (fun x : Int => [Value.int .i64 x]) = ts.map (fun x => Value.int .i64 x) := by
  induction ts with
  | nil => rfl
  | cons b ts ih => rw [List.flatMap_cons, ih]; rfl
theorem ints_in {w : World} {v : Value} {b : Nat} (hv : Value.okWide Try.prog w .any b 31 v) (h : Op Try.prog w 31 v.cells.toList) :
    ∃ (ts : List Int) (a : Option Addr) (cap : Nat), v = .slice a ts.length cap ∧ Rd w 1 a ts.length (ts.map (fun x => Value.int .i64 x)) ∧ ts.length ≤ 9223372036854775807 ∧ ∀ x ∈ ts, x < 9223372036854775808 := by
  obtain ⟨a, n, cap, rfl⟩ := okWide_slice Try.underlying31 hv
  obtain ⟨a', n', cap', e, g1, g2, g3, g4⟩ := h.slice Try.underlying31 (sz := 1) (by kernel_rfl)
  simp [Value.cells] at e
  obtain ⟨rfl, rfl, rfl⟩ := e
  obtain ⟨ts, hts, hrd, hq⟩ := rd_of (w := w) (fun x : Int => [Value.int .i64 x]) 1 (by omega) (fun _ => rfl) (fun x => x < 9223372036854775808) (n := n) (a := a) (fun i hi => by
    obtain ⟨cs', hl', hc, ho⟩ := g4 i hi
    obtain ⟨x, hx, w1⟩ := ho.int Try.underlying3
    subst hx
    exact ⟨x, hc, by simp [Lit.wf, IntKind.min, IntKind.max, IntKind.signed, IntKind.bits] at w1; omega⟩)
  subst hts
  rw [flat_intsR] at hrd
  exact ⟨ts, a, cap, rfl, hrd, by unfold maxLen at g2; omega, hq⟩

theorem ClientRounds_walk (v0 v1 v2 : Value) (w : World) {b0 b1 b2 : Nat} (h0 : Value.okWide Try.prog w .any b0 5 v0) (o0 : Op Try.prog w 5 v0.cells.toList) (h1 : Value.okWide Try.prog w .any b1 5 v1) (o1 : Op Try.prog w 5 v1.cells.toList) (h2 : Value.okWide Try.prog w .any b2 31 v2) (o2 : Op Try.prog w 31 v2.cells.toList) :
    Calls Try.prog 4 #[v0, v1, v2] w fun e w' => e = .returned (.bool true) ∧ Below w.heap.size w w' := by
  obtain ⟨z, rfl, hz⟩ := u8_in h0 o0
  obtain ⟨q, rfl, hq⟩ := u8_in h1 o1
  obtain ⟨xs, a, cap, rfl, hr, hl, hx⟩ := ints_in h2 o2
  exact (rounds24_any z q xs a cap w hz hq hr hl hx).mono fun e w' ⟨h1, h2⟩ => ⟨h1, h2.below0⟩
set_option maxRecDepth 100000 in
theorem ClientRounds_lifted (os : Os) (started : os.Started) (H : Type) (enc : TypeId × Value → H) :
    ReturnsInHanded {} Try.checked os 4 .any (Rows.clientRoundsSpec.pre6 enc Try.prog Try.f4 Rows.clientRoundsRow.domain false) (Rows.clientRoundsSpec.post enc Try.prog Try.f4 false true false false) := by
  refine returnsInHanded_of_change_sized (C := Try.checked) (by kernel_rfl) started (by kernel_rfl) Try.func4
    (ChangeSpec.witness6 (enc := enc) (C := Try.checked) false ⟨#[], #[.int .u8 0, .int .u8 0, .slice none 0 0], []⟩ 8 (by kernel_rfl) (by kernel_rfl) (by kernel_rfl) (by kernel_rfl)) ?_
  intro W base args ds gs before hval0 hW hcnd hsz0 _
  have hval : ∀ (j : Nat) t v, Try.f4.params[j]? = some t → args[j]? = some v → Value.okWide Try.prog W .any base t v := hval0
  have hsz : (DataW.weightsEach Try.prog (Try.f4.params.toList ++ Rows.clientRoundsSpec.plain.varTypes Try.prog) (ds ++ gs)).all (· ≤ reachBytes) = true := hsz0
  have hW' := hW
  obtain ⟨p, q, hA0, hV, rfl, hfz, hnd⟩ := hW
  have hA : DataW.TrodAll enc Try.prog W 0 (fun _ => true) true Try.f4.params.toList args.toList ds p := hA0
  rw [Try.params4] at hA hval hsz
  obtain ⟨v0, vs0, d0, ds0, p0, q0, hargs, rfl, rfl, h0, r0⟩ := trodAll_cons hA
  obtain ⟨v1, vs1, d1, ds1, p1, q1, rfl, rfl, rfl, h1, r1⟩ := trodAll_cons r0
  obtain ⟨v2, vs2, d2, ds2, p2, q2, rfl, rfl, rfl, h2, r2⟩ := trodAll_cons r1
  obtain ⟨rfl, rfl, rfl⟩ := trodAll_nil r2
  obtain rfl : args = #[v0, v1, v2] := by cases args; simp_all
  obtain ⟨rfl, rfl⟩ := trodVars_none hV
  have lt0 : ∀ x ∈ p0, x.block < W.heap.size := by obtain ⟨m, hm⟩ := h0; exact DataW.trod_lt m _ _ _ hm
  have o0 := op_of hsz (j := 0) rfl rfl h0
  have lt1 : ∀ x ∈ p1, x.block < W.heap.size := by obtain ⟨m, hm⟩ := h1; exact DataW.trod_lt m _ _ _ hm
  have o1 := op_of hsz (j := 1) rfl rfl h1
  have lt2 : ∀ x ∈ p2, x.block < W.heap.size := by obtain ⟨m, hm⟩ := h2; exact DataW.trod_lt m _ _ _ hm
  have o2 := op_of hsz (j := 2) rfl rfl h2
  refine (ClientRounds_walk v0 v1 v2 W (hval 0 _ v0 rfl rfl) o0 (hval 1 _ v1 rfl rfl) o1 (hval 2 _ v2 rfl rfl) o2).mono fun e W' ⟨he, bel⟩ => ?_
  subst he
  exact ⟨_, rfl, _, _, _, [], _, [], hW', trodAll_mk1 (shut_bool Try.underlying4 _), (trodAll_cons_mk (Below.trod (by kernel_rfl) (by kernel_rfl) (of_decide_eq_true (by kernel_rfl)) h0 bel lt0) (trodAll_cons_mk (Below.trod (by kernel_rfl) (by kernel_rfl) (of_decide_eq_true (by kernel_rfl)) h1 bel lt1) (trodAll_cons_mk (Below.trod (by kernel_rfl) (by kernel_rfl) (of_decide_eq_true (by kernel_rfl)) h2 bel lt2) trodAll_mk0))), rfl, bel.frame _, fun h => by cases h⟩

/-- The statement. -/
theorem ClientRounds_holds : Rows.ClientRoundsSaid :=
  OpenClaim.holds_of_wide 4 Try.f4 rfl rfl rfl rfl rfl rfl rfl ⟨rfl, rfl, rfl, rfl, rfl⟩ rfl rfl rfl rfl rfl (by kernel_rfl) Try.func4 (by kernel_rfl)
    (of_decide_eq_true (by kernel_rfl)) (by unfold Func.isWrapper; rw [if_neg (of_decide_eq_false (by kernel_rfl))]; exact ⟨rfl, rfl⟩)
    (fun os started H enc _ => ClientRounds_lifted os started H enc)
#print axioms ClientRounds_holds
end Go.Proofs.Ytjfaplmojpldhaa
