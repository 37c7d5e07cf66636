/-
  Chapter 25's small functions in memory: numbers, right, names, slices.Index, decimal, Itoa, Right. Condition of Itoa: its table as Go lays it.
-/
import Derived.Test.YtnklfcejdkpjfaaDoorScrPlain
import Derived.Test.YtnklfcejdkpjfaaDoorScrShelf
import Derived.Test.YtnklfcejdkpjfaaDoorMem3
import Derived.Test.YtnklfcejdkpjfaaDoorMemRow
import Derived.Lib.AppendIntMem
import Derived.Deep.DeepCutAuto
import Derived.Deep.CutBlock
namespace Go.Proofs.YtnklfcejdkpjfaaDoor
open Go.RowKit
set_option linter.unusedSimpArgs false
set_option linter.unusedVariables false
set_option maxRecDepth 100000

/-- What the library reads of its variables. -/
structure STabs (w : World) : Prop where
  pow : Lib.TabIs Tryd.prog w "internal/strconv.uint64pow10" .u64 Lib.pow10Tab
  ml : ∃ m : Int, w.cell? ⟨1, 0, none⟩ = some (.int .i64 m)
theorem STabs.step {w w' : World} {S : List Nat} (h : STabs w) (k : Step [] S w w') : STabs w' := by
  obtain ⟨m, hm⟩ := h.ml
  exact ⟨Lib.tabBelow_of_tabIs h.pow w' k.below0, m, k.cell hm (by simp)⟩
abbrev evV (x : Ev) : Value := .agg #[.int .i64 x.k, .int .i64 x.a, .int .i64 x.b, .int .i64 x.c, .int .i64 x.d]
theorem Tryd.sEv : StructOf Tryd.prog 23 5 := ⟨by kernel_rfl, _, Tryd.underlying23⟩
theorem evc_one (x : Ev) : (evc x).toArray.all (·.oneCell') = true := by simp [evc, Value.oneCell']
theorem grow_step (w : World) (k : Nat) (os : Array Obj) : Step [] [] w (Go.Sort.grow (w.drewN k) os) :=
  ⟨rfl, rfl, rfl, by simp [Go.Sort.grow, World.drewN], fun g hg _ => by simp only [Go.Sort.grow]; rw [Array.getElem?_append_left (by simpa [World.drewN] using hg)]; rfl, by simp⟩
theorem itoa_dec (n : Nat) (h : n < 256) : Lib.itoa n = decB n := by
  unfold Lib.itoa decB
  rw [if_neg (by omega), Int.toNat_natCast]
  by_cases h1 : n < 10
  · rw [Lib.decDigits, dif_pos h1, if_pos h1]
  · by_cases h2 : n < 100
    · rw [Lib.decDigits, dif_neg h1, Lib.decDigits, dif_pos (by omega), if_neg h1, if_pos h2]
      rfl
    · rw [Lib.decDigits, dif_neg h1, Lib.decDigits, dif_neg (by omega), Lib.decDigits, dif_pos (by omega), if_neg h1, if_neg h2, show n / 10 / 10 = n / 100 by omega]
      rfl
theorem itoa_any (n : Nat) (hn : n < 256) (w : World) (hT : STabs w) : Calls Tryd.prog 19 #[.int .i64 n] w fun e w' => e = .returned (Str (decB n)) ∧ Step [] [] w w' := by
  refine (Tryd.strconv_Itoa n (by omega) (by omega) w hT.pow).mono ?_
  rintro e w' ⟨rfl, k, os, rfl⟩
  rw [itoa_dec n hn]
  exact ⟨rfl, grow_step _ _ _⟩
theorem byteOne_any (n : Int) (w : World) : Calls Tryd.prog 25 #[.int .i64 n] w fun e w' => e = .returned (.bool (okB n)) ∧ w = w' := by
  go_enter Tryd.func25, Tryd.ntmps25
  by_cases h : 0 ≤ n
  · have hd : decide (0 ≤ n) = true := decide_eq_true h
    go_wp2_with fail
    exact bodyPost_ret (results_tmp rfl _ _ _) rfl ⟨by simp [okB, hd], rfl⟩
  · have hd : decide (0 ≤ n) = false := decide_eq_false h
    go_wp2_with fail
    exact bodyPost_ret (results_tmp rfl _ _ _) rfl ⟨by simp only [okB, hd, Bool.false_and]; rfl, rfl⟩
def NumsP (x : Ev) (w : World) (e : Ending) (w' : World) : Prop := ∃ g : Nat, e = .returned (.slice (some ⟨g, 0, none⟩) 5 5) ∧ Row w' 1 (some ⟨g, 0, none⟩) 5 5 (evc x) ∧ Step [] [g] w w'
theorem numbers_any (x : Ev) (w : World) : Calls Tryd.prog 20 #[evV x] w (NumsP x w) := by
  go_enter Tryd.func20, Tryd.ntmps20
  go_wp2_with fail
  refine bodyPost_ret (results_tmp rfl _ _ _) rfl ⟨w.heap.size + 1, by simp, ?_, ?_⟩
  · exact row_blk' (xs := evc x) (t := 3) (by have := Blk.new (w.alloc (.cells (evc x).toArray 23)) 3 (evc x).toArray; simpa [evc] using this) 1 5 rfl (by unfold maxLen; omega)
  · have := ((Step.refl [] w).alloc (.cells (evc x).toArray 23)).hold (.cells (evc x).toArray 3)
    simpa [evc] using this
theorem rightE_all (x : Ev) : rightE x = true ↔ ∀ (j : Nat) (n : Int), j < 5 → x.ns[j]? = some n → okB n = true := by
  rw [rightE_iff]
  constructor
  · rintro ⟨h0, h1, h2, h3, h4⟩ j n hj hn
    match j, hj with
    | 0, _ => simp [Ev.ns] at hn; rw [← hn]; exact h0
    | 1, _ => simp [Ev.ns] at hn; rw [← hn]; exact h1
    | 2, _ => simp [Ev.ns] at hn; rw [← hn]; exact h2
    | 3, _ => simp [Ev.ns] at hn; rw [← hn]; exact h3
    | 4, _ => simp [Ev.ns] at hn; rw [← hn]; exact h4
  · intro h
    exact ⟨h 0 _ (by omega) rfl, h 1 _ (by omega) rfl, h 2 _ (by omega) rfl, h 3 _ (by omega) rfl, h 4 _ (by omega) rfl⟩
theorem evc_at (x : Ev) (j : Nat) (n : Int) (h : x.ns[j]? = some n) : (evc x)[j]? = some (.int .i64 n) := by
  have : evc x = x.ns.map (Value.int .i64) := rfl
  rw [this, List.getElem?_map, h]
  rfl
set_option maxHeartbeats 2000000 in
theorem right_any (x : Ev) (w : World) : Calls Tryd.prog 17 #[evV x] w fun e w' => e = .returned (.bool (rightE x)) ∧ Step [] [] w w' := by
  have H00 : Hid (Blk (w.alloc (.cells (evc x).toArray 23)) w.heap.size 23 (evc x).toArray ∧ Step [] [] w (w.alloc (.cells (evc x).toArray 23))) := Lib.hid ⟨Blk.new w _ _, (Step.refl [] w).alloc _⟩
  go_enter Tryd.func17, Tryd.ntmps17
  go_upto_region 1 with fail
  change Code.wp _ _ _ _ (w.alloc (.cells (evc x).toArray 23))
  obtain ⟨b, hb⟩ : ∃ b, b = w.heap.size := ⟨_, rfl⟩
  obtain ⟨V, hV⟩ : ∃ V, V = (w.alloc (.cells (evc x).toArray 23)) := ⟨_, rfl⟩
  rw [← hV, ← hb] at H00
  have H0 := H00
  rw [← hV]
  try rw [← hb]
  clear hV hb H00
  have fc := H0.out.1.cell
  have f0 := fc 0
  have f1 := fc 1
  have f2 := fc 2
  have f3 := fc 3
  have f4 := fc 4
  clear fc
  simp only [evc, List.getElem?_toArray, List.getElem?_cons_zero, List.getElem?_cons_succ] at f0 f1 f2 f3 f4
  have fl := H0.out.1.lt
  go_wp2_with fail
  refine (numbers_any x V).mono ?_
  rintro e w1 ⟨g, rfl, hr, k1⟩
  have H1 := Lib.hid (And.intro hr (H0.out.2.trans (k1.drop (by simp) : Step [] [] V w1)))
  clear hr k1 H0 f0 f1 f2 f3 f4 fl
  go_wp2_with fail
  go_loopw [8] (fun v W => ∃ i : Nat, i ≤ 5 ∧ v = .int .i64 i ∧ Hid (W = w1 ∧ ∀ (j : Nat) (n : Int), j < i → x.ns[j]? = some n → okB n = true)) (fun v _ => 5 - (intOf v).toNat)
  case atStart => exact ⟨0, by omega, rfl, Lib.hid ⟨rfl, by intro j n hj; omega⟩⟩
  case round =>
    rename World => W
    obtain ⟨i, hi, rfl, HW⟩ := hrel
    obtain ⟨rfl, hall⟩ := HW.out
    have HALL := Lib.hid hall
    clear HW hall
    by_cases hlt : i < 5
    · have hlt' : (i : Int) < 5 := by omega
      obtain ⟨n, hn⟩ : ∃ n, x.ns[i]? = some n := ⟨_, List.getElem?_eq_getElem (show i < x.ns.length from hlt)⟩
      have zq := H1.out.1.cell rfl i (by omega)
      have zc := zq.1.trans (evc_at x i n hn)
      have zl := H1.out.1.lt g (by simp [blks])
      have HN := Lib.hid hn
      clear zq hn
      rw [Nat.zero_add] at zc
      by_cases h0 : n < 0
      · have hd : decide (n < 0) = true := decide_eq_true h0
        have HV : Hid (rightE x = false) := Lib.hid (by cases hq : rightE x with | false => rfl | true => have h9 := okB_iff.1 ((rightE_all x).1 hq i n hlt HN.out); omega)
        clear h0
        go_wp2_with fail
        exact bodyPost_ret (results_tmp rfl _ _ _) rfl ⟨by rw [HV.out] <;> rfl, H1.out.2⟩
      · have hd : decide (n < 0) = false := decide_eq_false h0
        by_cases h1 : 255 < n
        · have hd1 : decide (255 < n) = true := decide_eq_true h1
          have HV : Hid (rightE x = false) := Lib.hid (by cases hq : rightE x with | false => rfl | true => have h9 := okB_iff.1 ((rightE_all x).1 hq i n hlt HN.out); omega)
          clear h0 h1
          go_wp2_with fail
          exact bodyPost_ret (results_tmp rfl _ _ _) rfl ⟨by rw [HV.out] <;> rfl, H1.out.2⟩
        · have hd1 : decide (255 < n) = false := decide_eq_false h1
          have HA2 : Hid (∀ (j : Nat) (n : Int), j < i + 1 → x.ns[j]? = some n → okB n = true) := Lib.hid (fun j m hj hm => by
            by_cases hji : j = i
            · subst hji; rw [HN.out] at hm; cases hm; exact okB_iff.2 ⟨by omega, by omega⟩
            · exact HALL.out j m (by omega) hm)
          clear h0 h1
          go_wp2_with fail
          go_roundw
          case rel => exact ⟨i + 1, by omega, by go_num, Lib.hid ⟨by first | rfl | trivial, HA2.out⟩⟩
          case measure => simp [intOf]; omega
    · obtain rfl : i = 5 := by omega
      have HV : Hid (rightE x = true) := Lib.hid ((rightE_all x).2 HALL.out)
      go_wp2_with fail
      exact bodyPost_ret (results_tmp rfl _ _ _) rfl ⟨by rw [HV.out] <;> rfl, H1.out.2⟩
theorem names_any (w : World) : Calls Tryd.prog 18 #[] w fun e w' => e = .returned (.slice (some ⟨w.heap.size, 0, none⟩) 17 17) ∧ w' = w.alloc (.cells (namesE.map Str).toArray 9) := by
  go_enter Tryd.func18, Tryd.ntmps18
  go_wp2_with fail
  exact bodyPost_ret (results_tmp rfl _ _ _) rfl ⟨rfl, rfl⟩
theorem rnames_any (w : World) : Calls Tryd.prog 22 #[] w fun e w' => e = .returned (.slice (some ⟨w.heap.size, 0, none⟩) 17 17) ∧ w' = w.alloc (.cells (namesE.map Str).toArray 9) := by
  go_enter Tryd.func22, Tryd.ntmps22
  go_wp2_with fail
  exact bodyPost_ret (results_tmp rfl _ _ _) rfl ⟨rfl, rfl⟩
def idxS (v : List UInt8) (l : List (List UInt8)) : Int := if v ∈ l then (l.idxOf v : Nat) else -1
theorem idxS_hit {v : List UInt8} {l : List (List UInt8)} {i : Nat} (h : l[i]? = some v) (hn : ∀ j, j < i → ∀ u, l[j]? = some u → ¬ u = v) : idxS v l = i := by
  induction l generalizing i with
  | nil => simp at h
  | cons a l ih =>
    cases i with
    | zero =>
      simp at h
      subst h
      simp [idxS]
    | succ i =>
      have ha : ¬ a = v := hn 0 (by omega) a rfl
      simp only [List.getElem?_cons_succ] at h
      have := ih h (fun j hj u hu => hn (j + 1) (by omega) u (by simpa using hu))
      have hm : v ∈ l := List.mem_of_getElem? h
      simp only [idxS, if_pos hm] at this
      rw [idxS, if_pos (by simp [hm]), List.idxOf_cons, show (a == v) = false by simpa using ha]
      simp only [cond_false]
      omega
theorem idxS_miss {v : List UInt8} {l : List (List UInt8)} (hn : ∀ j, j < l.length → ∀ u, l[j]? = some u → ¬ u = v) : idxS v l = -1 := by
  rw [idxS, if_neg]
  intro hm
  obtain ⟨j, hj, e⟩ := List.mem_iff_getElem.1 hm
  exact hn j hj v (by rw [List.getElem?_eq_getElem hj, e]) rfl
theorem lt_of_cellS {w : World} {a : Addr} {v : Value} (h : w.cell? a = some v) : a.block < w.heap.size := by
  rcases Nat.lt_or_ge a.block w.heap.size with h1 | h1
  · exact h1
  · simp [World.cell?, Array.getElem?_eq_none h1] at h
set_option maxHeartbeats 2000000 in
theorem index_any (l : List (List UInt8)) (a : Option Addr) (cap : Nat) (v : List UInt8) (w : World) (hr : Rd w 1 a l.length (l.map Str)) (hl : l.length ≤ 4611686018427387903) : Calls Tryd.prog 24 #[.slice a l.length cap, Str v] w fun e w' => e = .returned (.int .i64 (idxS v l)) ∧ w = w' := by
  have HR := Lib.hid hr
  clear hr
  go_enter Tryd.func24, Tryd.ntmps24
  go_wp2_with fail
  go_loopw [8] (fun u W => ∃ i : Nat, i ≤ l.length ∧ u = .int .i64 i ∧ Hid (W = w ∧ ∀ j, j < i → ∀ u, l[j]? = some u → ¬ u = v)) (fun u _ => l.length - (intOf u).toNat)
  case atStart => exact ⟨0, by omega, rfl, Lib.hid ⟨rfl, by intro j hj; omega⟩⟩
  case round =>
    rename World => W
    obtain ⟨i, hi, rfl, HW⟩ := hrel
    obtain ⟨rfl, hall⟩ := HW.out
    have HALL := Lib.hid hall
    clear HW hall
    by_cases hlt : i < l.length
    · have hlt' : (i : Int) < l.length := by omega
      obtain ⟨u, hu⟩ : ∃ u, l[i]? = some u := ⟨_, List.getElem?_eq_getElem hlt⟩
      obtain ⟨g, off, hsa⟩ := HR.out.some_ (by omega)
      have zc := HR.out.cell g off none hsa i (Str u) (by rw [List.getElem?_map, hu]; rfl)
      have zl := lt_of_cellS zc
      have HSA := Lib.hid hsa
      have HU := Lib.hid hu
      rw [hsa]
      clear hsa hu
      by_cases hv : v = u
      · have hvb : (v == u) = true := by simp [hv]
        have HV : Hid (idxS v l = i) := Lib.hid (idxS_hit (by rw [HU.out, hv]) HALL.out)
        clear hv
        go_wp2_with fail
        exact bodyPost_ret (results_tmp rfl _ _ _) rfl ⟨by rw [HV.out] <;> rfl, rfl⟩
      · have hvb : (v == u) = false := by simpa using hv
        have HA2 : Hid (∀ j, j < i + 1 → ∀ u, l[j]? = some u → ¬ u = v) := Lib.hid (fun j hj y hy => by
          by_cases hji : j = i
          · subst hji; rw [HU.out] at hy; cases hy; exact fun e => hv e.symm
          · exact HALL.out j (by omega) y hy)
        clear hv
        go_wp2_with fail
        go_roundw
        case rel => exact ⟨i + 1, by omega, by go_num, Lib.hid ⟨by first | rfl | trivial, HA2.out⟩⟩
        case measure => simp [intOf]; omega
    · obtain rfl : i = l.length := by omega
      have hnl : ¬ (l.length : Int) < l.length := by omega
      have HV : Hid (idxS v l = -1) := Lib.hid (idxS_miss HALL.out)
      go_wp2_with fail
      exact bodyPost_ret (results_tmp rfl _ _ _) rfl ⟨by rw [HV.out] <;> rfl, rfl⟩
def flagN (v : Value) : Nat := match v with | .bool true => 1 | _ => 0
theorem dec_step : ∀ n, n < 256 → decB n = (if n / 10 = 0 then [] else decB (n / 10)) ++ [UInt8.ofNat (48 + n % 10)] := by decide +kernel
set_option maxHeartbeats 2000000 in
theorem decimal_any (n : Nat) (hn : n < 256) (w : World) : Calls Tryd.prog 21 #[.int .i64 n] w fun e w' => e = .returned (Str (decB n)) ∧ Step [] [] w w' := by
  go_enter Tryd.func21, Tryd.ntmps21
  go_wp2_with fail
  go_loopw [0, 3, 4] (fun un us uf W => ∃ (m : Nat) (s : List UInt8) (f : Bool), m ≤ n ∧ un = .int .i64 m ∧ us = Str s ∧ uf = .bool f ∧ Hid (Step [] [] w W ∧ (if f = true then m = n ∧ s = [] else (if m = 0 then [] else decB m) ++ s = decB n))) (fun un us uf _ => (intOf un).toNat + flagN uf)
  case atStart => exact ⟨n, [], true, by omega, rfl, rfl, rfl, Lib.hid ⟨Step.refl _ _, by rw [if_pos rfl]; exact ⟨rfl, rfl⟩⟩⟩
  case round =>
    rename World => W
    obtain ⟨m, s, f, hm, rfl, rfl, rfl, HW⟩ := hrel
    cases f with
    | true =>
      have hm10 : m % 10 < 10 := Nat.mod_lt m (by omega)
      have hmod : (m : Int).tmod 10 = ((m % 10 : Nat) : Int) := by rw [Int.ofNat_tmod]; rfl
      have hquo : (m : Int).tdiv 10 = ((m / 10 : Nat) : Int) := by rw [Int.ofNat_tdiv]; rfl
      obtain ⟨r, hr⟩ : ∃ r, r = m % 10 := ⟨_, rfl⟩
      rw [← hr] at hmod hm10
      have hwr : IntKind.u8.wrap (48 + (r : Int)) = ((48 + r : Nat) : Int) := by simp [IntKind.wrap, IntKind.signed, IntKind.bits]; omega
      obtain ⟨dg, hdg⟩ : ∃ d : UInt8, d = UInt8.ofNat (48 + r) := ⟨_, rfl⟩
      have hbv : (Value.int .u8 ((48 + r : Nat) : Int)) = bv dg := by rw [hdg]; simp only [bv]; rw [UInt8.toNat_ofNat_of_lt' (by simp [UInt8.size]; omega)]
      have hs : (convert 31 9 (.slice (some ⟨W.heap.size, 0, none⟩) 1 1)).run Tryd.prog (W.alloc (.cells #[.int .u8 (48 + (r : Int))] 5)) = .ok (Str [dg]) (W.alloc (.cells #[.int .u8 (48 + (r : Int))] 5)) := by
        have hc : (Value.int .u8 (48 + (r : Int))) = bv dg := by rw [← hbv]; congr 1
        rw [hc]
        exact run_str_of_row 31 9 5 Tryd.underlying31 Tryd.underlying5 Tryd.underlying9 (l := [dg]) (row_fresh W 5 ([dg].map bv) (by simp [maxLen]))
      have HRR : Hid (dg = UInt8.ofNat (48 + m % 10)) := Lib.hid (by rw [hdg, hr])
      clear hr hdg
      clear hbv
      have HNX : Hid (Step [] [] w (W.alloc (.cells #[.int .u8 (48 + (r : Int))] 5)) ∧ (if false = true then m / 10 = n ∧ dg :: s = [] else (if m / 10 = 0 then [] else decB (m / 10)) ++ dg :: s = decB n)) := Lib.hid ⟨HW.out.1.alloc _, by
        obtain ⟨e1, e2⟩ : m = n ∧ s = [] := by have := HW.out.2; rwa [if_pos rfl] at this
        rw [if_neg (by simp), e2, HRR.out, e1]
        exact (dec_step n hn).symm⟩
      have hsl : s.length ≤ 3 := by
        have := HW.out.2
        rw [if_pos rfl] at this
        simp [this.2]
      clear HW
      go_wp2_with fail
      go_roundw
      case rel => exact ⟨m / 10, dg :: s, false, by omega, by go_num, by simp, rfl, HNX⟩
      case measure => first | (simp [intOf, flagN]; omega; done) | (have h0p := of_decide_eq_true h0d; simp [intOf, flagN]; omega)
    | false =>
      by_cases h0 : m = 0
      · subst h0
        have HV : Hid (s = decB n) := Lib.hid (by have := HW.out.2; simpa using this)
        go_wp2_with fail
        exact bodyPost_ret (results_tmp rfl _ _ _) rfl ⟨by rw [← HV.out] <;> rfl, HW.out.1⟩
      · have h0d : decide (0 < m) = true := decide_eq_true (by omega)
        have hm10 : m % 10 < 10 := Nat.mod_lt m (by omega)
        have hmod : (m : Int).tmod 10 = ((m % 10 : Nat) : Int) := by rw [Int.ofNat_tmod]; rfl
        have hquo : (m : Int).tdiv 10 = ((m / 10 : Nat) : Int) := by rw [Int.ofNat_tdiv]; rfl
        obtain ⟨r, hr⟩ : ∃ r, r = m % 10 := ⟨_, rfl⟩
        rw [← hr] at hmod hm10
        have hwr : IntKind.u8.wrap (48 + (r : Int)) = ((48 + r : Nat) : Int) := by simp [IntKind.wrap, IntKind.signed, IntKind.bits]; omega
        obtain ⟨dg, hdg⟩ : ∃ d : UInt8, d = UInt8.ofNat (48 + r) := ⟨_, rfl⟩
        have hbv : (Value.int .u8 ((48 + r : Nat) : Int)) = bv dg := by rw [hdg]; simp only [bv]; rw [UInt8.toNat_ofNat_of_lt' (by simp [UInt8.size]; omega)]
        have hs : (convert 31 9 (.slice (some ⟨W.heap.size, 0, none⟩) 1 1)).run Tryd.prog (W.alloc (.cells #[.int .u8 (48 + (r : Int))] 5)) = .ok (Str [dg]) (W.alloc (.cells #[.int .u8 (48 + (r : Int))] 5)) := by
          have hc : (Value.int .u8 (48 + (r : Int))) = bv dg := by rw [← hbv]; congr 1
          rw [hc]
          exact run_str_of_row 31 9 5 Tryd.underlying31 Tryd.underlying5 Tryd.underlying9 (l := [dg]) (row_fresh W 5 ([dg].map bv) (by simp [maxLen]))
        have HRR : Hid (dg = UInt8.ofNat (48 + m % 10)) := Lib.hid (by rw [hdg, hr])
        clear hr hdg
        clear hbv
        have HNX : Hid (Step [] [] w (W.alloc (.cells #[.int .u8 (48 + (r : Int))] 5)) ∧ (if false = true then m / 10 = n ∧ dg :: s = [] else (if m / 10 = 0 then [] else decB (m / 10)) ++ dg :: s = decB n)) := Lib.hid ⟨HW.out.1.alloc _, by
          have e1 : decB m ++ s = decB n := by have := HW.out.2; rwa [if_neg (by simp), if_neg h0] at this
          rw [if_neg (by simp), HRR.out, ← e1, dec_step m (by omega), List.append_assoc]
          rfl⟩
        have hsl : s.length ≤ 3 := by
          have h1 : decB m ++ s = decB n := by have := HW.out.2; rwa [if_neg (by simp), if_neg h0] at this
          have h2 := congrArg List.length h1
          have h3 := (dec_words n hn).2.2.2
          rw [List.length_append] at h2
          omega
        clear HW h0
        go_wp2_with fail
        go_roundw
        case rel => exact ⟨m / 10, dg :: s, false, by omega, by go_num, by simp, rfl, HNX⟩
        case measure => first | (simp [intOf, flagN]; omega; done) | (have h0p := of_decide_eq_true h0d; simp [intOf, flagN]; omega)
end Go.Proofs.YtnklfcejdkpjfaaDoor
