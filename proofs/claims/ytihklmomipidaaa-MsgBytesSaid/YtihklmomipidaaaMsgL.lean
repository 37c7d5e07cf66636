/-
  law10's great: more than is played? Condition: at most 2^42 entries.
-/
import Derived.Test.YtihklmomipidaaaMsgOpen
namespace Go.Proofs.Ytihklmomipidaaa
open Go.RowKit
set_option linter.unusedSimpArgs false
set_option linter.unusedVariables false
set_option maxRecDepth 100000

def greatM (x : Rw) : Bool := decide (1100000 < x.data.length) || decide (20 < x.es.length) || x.es.any (fun e => decide (10000 < e.data.length))
theorem greatM_len {x : Rw} (h : greatM x = false) : x.data.length ≤ 1100000 ∧ x.es.length ≤ 20 := by
  simp only [greatM, Bool.or_eq_false_iff, decide_eq_false_iff_not] at h
  omega
set_option maxHeartbeats 4000000 in
theorem great10_any (x : Rw) (a : Option Addr) (cap : Nat) (w : World) (hr : Rd w 3 a x.es.length (entcs x.es)) (hl : x.es.length ≤ 4398046511104) (hd : x.data.length ≤ 140737488351232) :
    Calls Try.prog 12 #[rwV x (.slice a x.es.length cap)] w fun e w' => e = .returned (.bool (greatM x)) ∧ Step [] [] w w' := by
  have H1 : Hid (Blk (w.alloc (.cells (rwc x (.slice a x.es.length cap)).toArray 24)) w.heap.size 24 (rwc x (.slice a x.es.length cap)).toArray ∧ Rd (w.alloc (.cells (rwc x (.slice a x.es.length cap)).toArray 24)) 3 a x.es.length (entcs x.es) ∧ Step [] [] w (w.alloc (.cells (rwc x (.slice a x.es.length cap)).toArray 24))) := ⟨Blk.new w _ _, hr.alloc _, (Step.refl [] w).alloc _⟩
  clear hr
  go_enter Try.func12, Try.ntmps12
  go_upto_region 1 with fail
  obtain ⟨b, hb⟩ : ∃ b, b = w.heap.size := ⟨_, rfl⟩
  obtain ⟨V, hV⟩ : ∃ V, V = w.alloc (.cells (rwc x (.slice a x.es.length cap)).toArray 24) := ⟨_, rfl⟩
  rw [← hV, ← hb] at H1
  rw [show w.alloc (.cells #[.int .i64 x.kind, .int .i64 x.src, .int .i64 x.term, .int .i64 x.index, .int .i64 x.last, .int .i64 x.commit, .int .i64 x.round, .bool x.yes, .slice a x.es.length cap, .string ⟨x.data.toArray⟩] 24) = V from hV.symm, ← hb]
  clear hV hb
  have hb0 := H1.out.1.rw
  have hbl := H1.out.1.lt
  by_cases hdl : (1100000 : Int) < x.data.length
  · have HE : Hid (greatM x = true) := Lib.hid (by have : decide (1100000 < x.data.length) = true := decide_eq_true (by omega); simp [greatM, this])
    go_wp2_with fail
    exact bodyPost_ret (results_tmp rfl _ _ _) rfl ⟨by rw [HE.out]; rfl, H1.out.2.2⟩
  · have hdd : decide ((1100000 : Int) < x.data.length) = false := decide_eq_false hdl
    by_cases hel : (20 : Int) < x.es.length
    · have HE : Hid (greatM x = true) := Lib.hid (by have : decide (20 < x.es.length) = true := decide_eq_true (by omega); simp [greatM, this])
      go_wp2_with fail
      exact bodyPost_ret (results_tmp rfl _ _ _) rfl ⟨by rw [HE.out]; rfl, H1.out.2.2⟩
    · have hed : decide ((20 : Int) < x.es.length) = false := decide_eq_false hel
      have HS : Hid (x.data.length ≤ 1100000 ∧ x.es.length ≤ 20) := Lib.hid (by omega)
      clear hdl hel
      go_wp2_with fail
      clear hdd hed
      go_loop [17] (fun i => ∃ k : Nat, i = .int .i64 k ∧ k ≤ x.es.length ∧ Hid (∀ (j : Nat) e, j < k → x.es[j]? = some e → e.data.length ≤ 10000)) (fun i => x.es.length - (intOf i).toNat)
      case atStart => exact ⟨0, rfl, by omega, by intro j e hj; omega⟩
      case round =>
        obtain ⟨k, rfl, hk, HW⟩ := hrel
        by_cases hlt : k < x.es.length
        · have hlt' : (k : Int) < x.es.length := by omega
          obtain ⟨e, he⟩ : ∃ e, x.es[k]? = some e := ⟨_, List.getElem?_eq_getElem hlt⟩
          obtain ⟨g, off, rfl⟩ := H1.out.2.1.some_ (by omega)
          have ce := rd_ent H1.out.2.1 he
          have gl : g < V.heap.size := by have := World.block_lt_of_cell? _ _ ce.1; simpa using this
          have HX := Lib.hid he
          clear he
          by_cases hu : (e.data.length : Int) ≤ 10000
          · have HN : Hid (∀ (j : Nat) e, j < k + 1 → x.es[j]? = some e → e.data.length ≤ 10000) := by
              intro j e' hj he'
              by_cases hjk : j = k
              · subst hjk
                rw [HX.out] at he'
                cases he'
                omega
              · exact HW.out j e' (by omega) he'
            go_wp2_with fail
            go_round
            case rel => exact ⟨k + 1, by go_num, by omega, HN.out⟩
            case measure => simp [intOf]; omega
          · have HE : Hid (greatM x = true) := Lib.hid (by
              have h1 := List.mem_of_getElem? HX.out
              have h2 : x.es.any (fun e => decide (10000 < e.data.length)) = true := List.any_eq_true.2 ⟨e, h1, decide_eq_true (by omega)⟩
              simp only [greatM, h2, Bool.or_true])
            go_wp2_with fail
            exact bodyPost_ret (results_tmp rfl _ _ _) rfl ⟨by rw [HE.out]; rfl, H1.out.2.2⟩
        · obtain rfl : k = x.es.length := by omega
          have HE : Hid (greatM x = false) := Lib.hid (by
            have h2 : x.es.any (fun e => decide (10000 < e.data.length)) = false := by
              rw [List.any_eq_false]
              intro e he
              obtain ⟨j, hj⟩ := List.getElem?_of_mem he
              have hjl : j < x.es.length := by obtain ⟨h, _⟩ := List.getElem?_eq_some_iff.1 hj; exact h
              have := HW.out j e hjl hj
              simp
              omega
            have h3 := HS.out
            rw [greatM, h2, show decide (1100000 < x.data.length) = false from decide_eq_false (by omega), show decide (20 < x.es.length) = false from decide_eq_false (by omega)]
            rfl)
          go_wp2_with fail
          exact bodyPost_ret (results_tmp rfl _ _ _) rfl ⟨by rw [HE.out]; rfl, H1.out.2.2⟩
end Go.Proofs.Ytihklmomipidaaa
