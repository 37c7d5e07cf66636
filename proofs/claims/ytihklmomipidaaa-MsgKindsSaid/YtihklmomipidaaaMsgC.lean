/-
  msg's right: is a flat form that of a right message? Condition: at most 2^40 entries.
-/
import Derived.Test.YtihklmomipidaaaMsgB
namespace Go.Proofs.Ytihklmomipidaaa
open Go.RowKit
set_option linter.unusedSimpArgs false
set_option linter.unusedVariables false
set_option maxRecDepth 100000

def numsL (x : Rw) : List Int := [x.src, x.term, x.index, x.last, x.commit, x.round]
theorem rightR_num {x : Rw} {k : Nat} {n : Int} (h : (numsL x)[k]? = some n) (hn : okN n = false) : rightR x = false := by
  have hm := List.mem_of_getElem? h
  simp [numsL] at hm
  simp only [rightR]
  rcases hm with rfl | rfl | rfl | rfl | rfl | rfl <;> simp [hn]
theorem rightR_parts {x : Rw} (h : ∀ n ∈ numsL x, okN n = true) : rightR x = (decide (x.data.length ≤ 1048576) && decide (x.es.length ≤ 8) && esOk (x.index + 1) x.es) := by
  simp only [rightR]
  rw [h x.src (by simp [numsL]), h x.term (by simp [numsL]), h x.index (by simp [numsL]), h x.last (by simp [numsL]), h x.commit (by simp [numsL]), h x.round (by simp [numsL])]
  simp [Bool.and_assoc]
theorem okN_iff (n : Int) : okN n = true ↔ 0 ≤ n ∧ n ≤ 1099511627776 := by simp [okN]
set_option maxHeartbeats 4000000 in
theorem right_any (x : Rw) (a : Option Addr) (cap : Nat) (w : World) (hr : Rd w 3 a x.es.length (entcs x.es)) (hl : x.es.length ≤ 4398046511104) (hd : x.data.length ≤ 1099511627776) : Calls Try.prog 29 #[rwV x (.slice a x.es.length cap)] w fun e w' => e = .returned (.bool (rightR x)) ∧ Step [] [] w w' := by
  have H1 : Hid (Blk (w.alloc (.cells (rwc x (.slice a x.es.length cap)).toArray 24)) w.heap.size 24 (rwc x (.slice a x.es.length cap)).toArray ∧ Rd (w.alloc (.cells (rwc x (.slice a x.es.length cap)).toArray 24)) 3 a x.es.length (entcs x.es) ∧ Step [] [] w (w.alloc (.cells (rwc x (.slice a x.es.length cap)).toArray 24))) := ⟨Blk.new w _ _, hr.alloc _, (Step.refl [] w).alloc _⟩
  clear hr
  go_enter Try.func29, Try.ntmps29
  go_upto_region 1 with fail
  obtain ⟨b, hb⟩ : ∃ b, b = w.heap.size := ⟨_, rfl⟩
  obtain ⟨V, hV⟩ : ∃ V, V = w.alloc (.cells (rwc x (.slice a x.es.length cap)).toArray 24) := ⟨_, rfl⟩
  rw [← hV, ← hb] at H1
  rw [show w.alloc (.cells #[.int .i64 x.kind, .int .i64 x.src, .int .i64 x.term, .int .i64 x.index, .int .i64 x.last, .int .i64 x.commit, .int .i64 x.round, .bool x.yes, .slice a x.es.length cap, .string ⟨x.data.toArray⟩] 24) = V from hV.symm, ← hb]
  clear hV hb
  have hb0 := H1.out.1.rw
  have hbl := H1.out.1.lt
  go_wp2_with fail
  obtain ⟨nb, hnb⟩ : ∃ nb, nb = V.heap.size := ⟨_, rfl⟩
  obtain ⟨U, hU⟩ : ∃ U, U = V.alloc (.cells #[.int .i64 x.src, .int .i64 x.term, .int .i64 x.index, .int .i64 x.last, .int .i64 x.commit, .int .i64 x.round] 3) := ⟨_, rfl⟩
  have H2 : Hid (Blk U b 24 (rwc x (.slice a x.es.length cap)).toArray ∧ Rd U 3 a x.es.length (entcs x.es) ∧ Step [] [] w U ∧ Blk U nb 3 ((numsL x).map (Value.int .i64)).toArray) := by
    rw [hU, hnb]
    exact ⟨H1.out.1.alloc _, H1.out.2.1.alloc _, H1.out.2.2.alloc _, Blk.new V _ _⟩
  rw [← hU, ← hnb]
  clear hU hnb H1 hb0 hbl
  go_loop [21] (fun i => ∃ k : Nat, i = .int .i64 k ∧ k ≤ 6 ∧ Hid (∀ n ∈ (numsL x).take k, okN n = true)) (fun i => 6 - (intOf i).toNat)
  case atStart => exact ⟨0, rfl, by omega, Lib.hid (fun n hn => by simp at hn)⟩
  case round =>
    obtain ⟨k, rfl, hk, HN⟩ := hrel
    have hbl := H2.out.2.2.2.lt
    by_cases hlt : k < 6
    · obtain ⟨n, hn⟩ : ∃ n, (numsL x)[k]? = some n := ⟨_, List.getElem?_eq_getElem (by simpa [numsL] using hlt)⟩
      have cn : U.cell? ⟨nb, k, none⟩ = some (.int .i64 n) := by rw [H2.out.2.2.2.cell]; simp [hn]
      have HNK := Lib.hid hn
      clear hn
      have hlt' : (k : Int) < 6 := by omega
      by_cases h0 : n < 0
      · have HF := Lib.hid (rightR_num HNK.out (by simp [okN]; omega))
        go_wp2_with fail
        exact bodyPost_ret (results_tmp rfl _ _ _) rfl ⟨by rw [HF.out]; rfl, H2.out.2.2.1⟩
      · by_cases h4 : 1099511627776 < n
        · have HF := Lib.hid (rightR_num HNK.out (by simp [okN]; omega))
          have h0d : decide (n < 0) = false := decide_eq_false h0
          go_wp2_with fail
          exact bodyPost_ret (results_tmp rfl _ _ _) rfl ⟨by rw [HF.out]; rfl, H2.out.2.2.1⟩
        · have h0d : decide (n < 0) = false := decide_eq_false h0
          have h4d : decide (1099511627776 < n) = false := decide_eq_false h4
          have HK : Hid (∀ m ∈ (numsL x).take (k + 1), okN m = true) := by
            intro m hm
            rw [List.take_add_one, HNK.out] at hm
            rcases List.mem_append.1 hm with hm | hm
            · exact HN.out m hm
            · simp at hm; subst hm; simp [okN]; omega
          clear h0 h4
          go_wp2_with fail
          go_round
          case rel => exact ⟨k + 1, by go_num, by omega, HK.out⟩
          case measure => simp [intOf]; omega
    · obtain rfl : k = 6 := by omega
      have HA : Hid (∀ n ∈ numsL x, okN n = true) := HN.out
      have HP := Lib.hid (rightR_parts HA.out)
      have hix := (okN_iff _).1 (HA.out x.index (by simp [numsL]))
      have hb0 := H2.out.1.rw
      have hbl2 := H2.out.1.lt
      clear HN
      by_cases h8 : (8 : Int) < x.es.length
      · have HF := Lib.hid (show rightR x = false by rw [HP.out, show decide (x.es.length ≤ 8) = false from decide_eq_false (by omega)]; simp)
        go_wp2_with fail
        exact bodyPost_ret (results_tmp rfl _ _ _) rfl ⟨by rw [HF.out]; rfl, H2.out.2.2.1⟩
      · have h8d : decide ((8 : Int) < x.es.length) = false := decide_eq_false h8
        by_cases hdl : (1048576 : Int) < x.data.length
        · have HF := Lib.hid (show rightR x = false by rw [HP.out, show decide (x.data.length ≤ 1048576) = false from decide_eq_false (by omega)]; simp)
          go_wp2_with fail
          exact bodyPost_ret (results_tmp rfl _ _ _) rfl ⟨by rw [HF.out]; rfl, H2.out.2.2.1⟩
        · have hdd : decide ((1048576 : Int) < x.data.length) = false := decide_eq_false hdl
          have HQ := Lib.hid (show rightR x = esOk (x.index + 1) x.es by rw [HP.out, show decide (x.data.length ≤ 1048576) = true from decide_eq_true (by omega), show decide (x.es.length ≤ 8) = true from decide_eq_true (by omega)]; simp)
          have h8n : x.es.length ≤ 8 := by omega
          clear hdl h8 HP
          go_wp2_with fail
          clear h8d hdd hb0 hbl2
          go_loopw [45] (fun i W => ∃ k : Nat, i = .int .i64 k ∧ k ≤ x.es.length ∧ Hid (Step [] [] U W ∧ ∀ (j : Nat) e, j < k → x.es[j]? = some e → entOk (x.index + 1 + j) e = true)) (fun i _ => x.es.length - (intOf i).toNat)
          case atStart => exact ⟨0, rfl, by omega, Step.refl _ _, by intro j e hj; omega⟩
          case round =>
            rename World => W
            obtain ⟨k, rfl, hk, HW⟩ := hrel
            have hb0 := (H2.out.1.step HW.out.1 (by simp)).rw
            have hbl2 := (H2.out.1.step HW.out.1 (by simp)).lt
            by_cases hlt : k < x.es.length
            · have hlt' : (k : Int) < x.es.length := by omega
              obtain ⟨e, he⟩ : ∃ e, x.es[k]? = some e := ⟨_, List.getElem?_eq_getElem hlt⟩
              have hrd := H2.out.2.1.step0 HW.out.1
              obtain ⟨g, off, rfl⟩ := hrd.some_ (by omega)
              have ce := rd_ent hrd he
              have gl : g < W.heap.size := by have := World.block_lt_of_cell? _ _ ce.1; simpa using this
              have HE := Lib.hid he
              clear he hrd
              have hno : ∀ (hf : entOk (x.index + 1 + k) e = false), rightR x = false := fun hf => by rw [HQ.out]; exact esOk_no HE.out hf
              have HNO := Lib.hid hno
              clear hno
              by_cases c1 : e.index = x.index + 1 + k
              · have c1b : (e.index != x.index + 1 + (k : Int)) = false := by simp [c1]
                have HC1 := Lib.hid c1
                clear c1
                by_cases c2 : e.term < 0
                · have HF := Lib.hid (HNO.out (by simp [entOk, okN]; omega))
                  have c2d : decide (e.term < 0) = true := decide_eq_true c2
                  clear c2
                  go_wp2_with fail
                  exact bodyPost_ret (results_tmp rfl _ _ _) rfl ⟨by rw [HF.out]; rfl, (H2.out.2.2.1.trans HW.out.1).alloc _⟩
                · have c2d : decide (e.term < 0) = false := decide_eq_false c2
                  by_cases c3 : 1099511627776 < e.term
                  · have HF := Lib.hid (HNO.out (by simp [entOk, okN]; omega))
                    have c3d : decide (1099511627776 < e.term) = true := decide_eq_true c3
                    clear c2 c3
                    go_wp2_with fail
                    exact bodyPost_ret (results_tmp rfl _ _ _) rfl ⟨by rw [HF.out]; rfl, (H2.out.2.2.1.trans HW.out.1).alloc _⟩
                  · have c3d : decide (1099511627776 < e.term) = false := decide_eq_false c3
                    by_cases c4 : (8192 : Int) < e.data.length
                    · have HF := Lib.hid (HNO.out (by simp [entOk, okN]; omega))
                      have c4d : decide ((8192 : Int) < e.data.length) = true := decide_eq_true c4
                      clear c2 c3 c4
                      go_wp2_with fail
                      exact bodyPost_ret (results_tmp rfl _ _ _) rfl ⟨by rw [HF.out]; rfl, (H2.out.2.2.1.trans HW.out.1).alloc _⟩
                    · have c4d : decide ((8192 : Int) < e.data.length) = false := decide_eq_false c4
                      have HK : Hid (∀ (j : Nat) e, j < k + 1 → x.es[j]? = some e → entOk (x.index + 1 + j) e = true) := by
                        intro j e' hj he'
                        by_cases hjk : j = k
                        · subst hjk
                          rw [HE.out] at he'
                          injection he' with he'
                          subst he'
                          have := HC1.out
                          simp [entOk, okN]
                          omega
                        · exact HW.out.2 j e' (by omega) he'
                      clear c2 c3 c4
                      go_wp2_with fail
                      go_roundw
                      case rel => exact ⟨k + 1, by go_num, by omega, HW.out.1.alloc _, HK.out⟩
                      case measure => simp [intOf]; omega
              · have c1b : (e.index != x.index + 1 + (k : Int)) = true := by simp [c1]
                have HF := Lib.hid (HNO.out (by simp [entOk]; intro h; exact absurd h c1))
                clear c1
                go_wp2_with fail
                exact bodyPost_ret (results_tmp rfl _ _ _) rfl ⟨by rw [HF.out]; rfl, (H2.out.2.2.1.trans HW.out.1).alloc _⟩
            · obtain rfl : k = x.es.length := by omega
              have HF : Hid (rightR x = true) := by
                show _ = _
                rw [HQ.out, esOk_iff]
                intro i e he
                exact HW.out.2 i e (List.getElem?_eq_some_iff.1 he).1 he
              go_wp2_with fail
              exact bodyPost_ret (results_tmp rfl _ _ _) rfl ⟨by rw [HF.out]; rfl, H2.out.2.2.1.trans HW.out.1⟩
end Go.Proofs.Ytihklmomipidaaa
