/-
  Encode: the bytes of events. Condition: at most 1000 events.
-/
import Derived.Test.YtnklfcejdkpjfaaDoorScrD
import Derived.Test.YtnklfcejdkpjfaaDoorMem5
namespace Go.Proofs.YtnklfcejdkpjfaaDoor
open Go.RowKit Go.ChangeShapes Go.WideShapes Go.ChangeAt
set_option linter.unusedSimpArgs false
set_option linter.unusedVariables false
set_option maxRecDepth 100000

def byteOf (n : Int) : UInt8 := UInt8.ofNat n.toNat
def bytesE (l : List Ev) : List UInt8 := l.flatMap fun x => x.ns.map byteOf
theorem bytesE_len (l : List Ev) : (bytesE l).length = 5 * l.length := by
  induction l with
  | nil => rfl
  | cons x l ih => simp only [bytesE, List.flatMap_cons, List.length_append, List.length_map, List.length_cons] at ih ⊢; rw [ih, show x.ns.length = 5 from rfl]; omega
theorem byteOf_bv {n : Int} (h : okB n = true) : bv (byteOf n) = .int .u8 n := by
  have := okB_iff.1 h
  simp only [bv, byteOf]
  rw [UInt8.toNat_ofNat_of_lt' (by simp [UInt8.size]; omega), Int.toNat_of_nonneg this.1]
theorem byteOf_nat {n : Int} (h : okB n = true) : ((byteOf n).toNat : Int) = n := by
  have := okB_iff.1 h
  simp only [byteOf]
  rw [UInt8.toNat_ofNat_of_lt' (by simp [UInt8.size]; omega), Int.toNat_of_nonneg this.1]
theorem bytesE_at (l : List Ev) (i : Nat) (x : Ev) (h : l[i]? = some x) (j : Nat) (hj : j < 5) : (bytesE l)[5 * i + j]? = (x.ns[j]?).map byteOf := by
  induction l generalizing i with
  | nil => simp at h
  | cons y l ih =>
    cases i with
    | zero =>
      simp at h
      subst h
      rw [bytesE, List.flatMap_cons, List.getElem?_append_left (by rw [List.length_map, show y.ns.length = 5 from rfl]; omega), List.getElem?_map]
      simp
    | succ i =>
      simp at h
      have := ih i h
      rw [bytesE, List.flatMap_cons, List.getElem?_append_right (by rw [List.length_map, show y.ns.length = 5 from rfl]; omega), List.length_map, show y.ns.length = 5 from rfl, show 5 * (i + 1) + j - 5 = 5 * i + j by omega]
      exact this
theorem ev_back (l : List Ev) (hr : ∀ x ∈ l, rightE x = true) : evsN (bytesE l) l.length = l := by
  apply List.ext_getElem?
  intro i
  rcases Nat.lt_or_ge i l.length with h | h
  · obtain ⟨x, hx⟩ : ∃ x, l[i]? = some x := ⟨_, List.getElem?_eq_getElem h⟩
    have hq := (rightE_all x).1 (hr x (List.mem_of_getElem? hx))
    have key : ∀ j n, j < 5 → x.ns[j]? = some n → nb (bytesE l) (5 * i + j) = n := by
      intro j n hj hn
      rw [nb, bytesE_at l i x hx j hj, hn]
      exact byteOf_nat (hq j n hj hn)
    rw [hx, evsN, List.getElem?_map, List.getElem?_range h]
    have e0 := key 0 x.k (by omega) rfl
    have e1 := key 1 x.a (by omega) rfl
    have e2 := key 2 x.b (by omega) rfl
    have e3 := key 3 x.c (by omega) rfl
    have e4 := key 4 x.d (by omega) rfl
    simp only [Nat.add_zero] at e0
    simp only [Option.map_some, evAt, e0, e1, e2, e3, e4]
  · rw [List.getElem?_eq_none h, List.getElem?_eq_none (by rw [evsN_len]; exact h)]
theorem cnt_bytes (l : List Ev) (h : l.length ≤ 400) : cntE (bytesE l) = l.length := by
  rw [cntE, bytesE_len]
  omega
theorem bytesE_take (l : List Ev) (i : Nat) (x : Ev) (h : l[i]? = some x) : bytesE (l.take (i + 1)) = bytesE (l.take i) ++ x.ns.map byteOf := by
  rw [List.take_add_one, h]
  simp [bytesE]
def FineE (l : List Ev) : Prop := l.length ≤ 400 ∧ ∀ x ∈ l, rightE x = true
def EncP (l : List Ev) (w : World) (e : Ending) (w' : World) : Prop := Step [] [] w w' ∧ ((FineE l ∧ ∃ oa oc, e = .returned (.tuple #[.slice oa (5 * l.length) oc, .bool true]) ∧ Row w' 1 oa (5 * l.length) oc ((bytesE l).map bv)) ∨ (¬ FineE l ∧ e = .returned (.tuple #[.slice none 0 0, .bool false])))
set_option maxHeartbeats 16000000 in
theorem encode_any (l : List Ev) (a : Option Addr) (cap : Nat) (w : World) (hr : Rd w 5 a l.length (evcs l)) (hl : l.length ≤ 1000) : Calls Tryd.prog 15 #[.slice a l.length cap] w (EncP l w) := by
  obtain ⟨i0, hi, hz0, hz1, hz2⟩ := info_parts Tryd.info_bytes
  have HI := Lib.hid (And.intro hi (And.intro hz0 (And.intro hz1 hz2)))
  clear hi hz0 hz1 hz2
  have HR := Lib.hid hr
  clear hr
  go_enter Tryd.func15, Tryd.ntmps15
  by_cases h4 : 400 < l.length
  · have h4d : decide (400 < l.length) = true := decide_eq_true h4
    have h4i : decide ((400 : Int) < (l.length : Int)) = true := decide_eq_true (by omega)
    have HN : Hid (¬ FineE l) := Lib.hid (fun h => by have := h.1; omega)
    clear h4
    go_wp2_with fail
    exact bodyPost_ret (results_tmp2 rfl _ _ _) rfl ⟨Step.refl _ _, .inr ⟨HN.out, rfl⟩⟩
  · have h4d : decide (400 < l.length) = false := decide_eq_false h4
    have h4i : decide ((400 : Int) < (l.length : Int)) = false := decide_eq_false (by omega)
    have h44 : l.length ≤ 400 := by omega
    clear h4
    go_wp2_with fail
    go_loopw [4, 14] (fun v4 v W => ∃ (i : Nat) (oa : Option Addr) (oc : Nat), i ≤ l.length ∧ v = .int .i64 i ∧ v4 = .slice oa (5 * i) oc ∧ Hid ((Row W 1 oa (5 * i) oc ((bytesE (l.take i)).map bv) ∧ Step [] (blks oa) w W) ∧ ∀ (j : Nat) (x : Ev), j < i → l[j]? = some x → rightE x = true)) (fun _ v _ => l.length - (intOf v).toNat)
    case atStart => exact ⟨0, none, 0, by omega, rfl, rfl, Lib.hid ⟨⟨by simpa [bytesE] using Row.none w 1, Step.refl _ _⟩, by intro j x hj; omega⟩⟩
    case round =>
      rename World => W
      obtain ⟨i, oa, oc, hi, rfl, rfl, HW⟩ := hrel
      by_cases hlt : i < l.length
      · have hlt' : (i : Int) < l.length := by omega
        obtain ⟨x, hx⟩ : ∃ x, l[i]? = some x := ⟨_, List.getElem?_eq_getElem hlt⟩
        have r1 := HR.out.step0 HW.out.1.2
        obtain ⟨g, off, hs1⟩ := r1.some_ (by omega)
        rw [hs1] at r1
        have q1 := rd_ev r1 hx
        obtain ⟨q10, q11, q12, q13, q14⟩ := q1
        have gl : g < W.heap.size := lt_of_cellS q10
        have HX := Lib.hid hx
        have HS1 := Lib.hid hs1
        rw [hs1]
        clear r1 hx hs1
        go_upto_region 7 with fail
        clear q10 q11 q12 q13 q14 gl
        obtain ⟨eb, heb⟩ : ∃ b, b = W.heap.size := ⟨_, rfl⟩
        obtain ⟨V, hV⟩ : ∃ V, V = W.alloc (.cells (evc x).toArray 23) := ⟨_, rfl⟩
        have kk : Step [] [] W V := by rw [hV]; exact (Step.refl [] W).alloc _
        have H1 : Hid (Blk V eb 23 (evc x).toArray ∧ (Row V 1 oa (5 * i) oc ((bytesE (l.take i)).map bv) ∧ Step [] (blks oa) w V)) := Lib.hid ⟨by rw [hV, heb]; exact Blk.new W _ _, HW.out.1.1.step kk (by simp), HW.out.1.2.trans (kk.keep _)⟩
        have HAL := Lib.hid HW.out.2
        change Code.wp _ _ _ _ (W.alloc (.cells (evc x).toArray 23))
        rw [← hV]
        try rw [← heb]
        clear hV heb kk HW
        have fc := H1.out.1.cell
        have f0 := fc 0
        have f1 := fc 1
        have f2 := fc 2
        have f3 := fc 3
        have f4 := fc 4
        clear fc
        simp only [evc, List.getElem?_toArray, List.getElem?_cons_zero, List.getElem?_cons_succ] at f0 f1 f2 f3 f4
        have fl := H1.out.1.lt
        go_wp2_with fail
        refine (right_any x V).mono ?_
        rintro e w2 ⟨rfl, k2⟩
        have H2 : Hid (Blk w2 eb 23 (evc x).toArray ∧ (Row w2 1 oa (5 * i) oc ((bytesE (l.take i)).map bv) ∧ Step [] (blks oa) w w2)) := Lib.hid ⟨H1.out.1.step k2 (by simp), H1.out.2.1.step k2 (by simp), H1.out.2.2.trans (k2.keep _)⟩
        clear k2 H1 f0 f1 f2 f3 f4 fl
        cases hrx : rightE x with
        | false =>
          have HN : Hid (¬ FineE l) := Lib.hid (fun h => by have := h.2 x (List.mem_of_getElem? HX.out); rw [hrx] at this; cases this)
          go_wp2_with fail
          exact bodyPost_ret (results_tmp2 rfl _ _ _) rfl ⟨H2.out.2.2.drop (by simp), .inr ⟨HN.out, rfl⟩⟩
        | true =>
          have HRX := Lib.hid hrx
          clear hrx
          have fc := H2.out.1.cell
          have f0 := fc 0
          have f1 := fc 1
          have f2 := fc 2
          have f3 := fc 3
          have f4 := fc 4
          clear fc
          simp only [evc, List.getElem?_toArray, List.getElem?_cons_zero, List.getElem?_cons_succ] at f0 f1 f2 f3 f4
          have fl := H2.out.1.lt
          go_wp2_with fail
          refine (numbers_any x w2).mono ?_
          rintro e w3 ⟨gn, rfl, hrw, k3⟩
          have k3d : Step [] [] w2 w3 := k3.drop (by simp)
          have H3 : Hid (Row w3 1 (some ⟨gn, 0, none⟩) 5 5 (evc x) ∧ (Row w3 1 oa (5 * i) oc ((bytesE (l.take i)).map bv) ∧ Step [] (blks oa) w w3) ∧ gn ∉ blks oa) := Lib.hid ⟨hrw, ⟨H2.out.2.1.step k3d (by simp), H2.out.2.2.trans (k3d.keep _)⟩, fun hm => by have h1 := H2.out.2.1.lt gn hm; rcases k3.fresh gn (by simp) with h | h; (simp at h); omega⟩
          clear hrw k3 k3d H2 f0 f1 f2 f3 f4 fl
          have hsz : ((bytesE (l.take i) ++ (x.ns.take 0).map byteOf)) = bytesE (l.take i) := by simp
          go_wp2_with fail
          go_loopw [4, 24] (fun v4 v W => ∃ (j m : Nat) (pa : Option Addr) (pc : Nat), j ≤ 5 ∧ m = 5 * i + j ∧ v = .int .i64 j ∧ v4 = .slice pa m pc ∧ Hid (Row W 1 (some ⟨gn, 0, none⟩) 5 5 (evc x) ∧ (Row W 1 pa (m) pc ((bytesE (l.take i) ++ (x.ns.take j).map byteOf).map bv) ∧ Step [] (blks pa) w W) ∧ gn ∉ blks pa)) (fun _ v _ => 5 - (intOf v).toNat)
          case atStart => exact ⟨0, 5 * i, oa, oc, by omega, by omega, rfl, rfl, Lib.hid (by rw [hsz]; exact H3.out)⟩
          case round =>
            clear H3 hsz
            rename World => Y
            obtain ⟨j, m, pa, pc, hj, hm, rfl, rfl, HY⟩ := hrel
            have HM := Lib.hid hm
            have hmm : m ≤ 5000 := by omega
            clear hm
            by_cases hj5 : j < 5
            · have hj5' : (j : Int) < 5 := by omega
              obtain ⟨n, hn⟩ : ∃ n, x.ns[j]? = some n := ⟨_, List.getElem?_eq_getElem (show j < x.ns.length from hj5)⟩
              have hok := (rightE_all x).1 HRX.out j n hj5 hn
              have zq := HY.out.1.cell rfl j (by omega)
              have zc := zq.1.trans (evc_at x j n hn)
              rw [Nat.zero_add] at zc
              have zl := HY.out.1.lt gn (by simp [blks])
              have hn2 := okB_iff.1 hok
              have hwr : IntKind.u8.wrap n = n := IntWalk.u8_in _ (by omega)
              have HBV := Lib.hid (byteOf_bv hok)
              have HNN := Lib.hid hn
              clear zq hn hok hn2
              have HAP : Hid (Row (Y.alloc (.cells #[.int .u8 n] 5)) 1 pa m pc ((bytesE (l.take i) ++ (x.ns.take j).map byteOf).map bv) ∧ Rd (Y.alloc (.cells #[.int .u8 n] 5)) 1 (some ⟨Y.heap.size, 0, none⟩) 1 ([byteOf n].map bv)) := Lib.hid ⟨HY.out.2.1.1.alloc _, by have hq := Blk.new Y 5 #[.int .u8 n]; rw [← HBV.out] at hq ⊢; exact rd_blk' (xs := [byteOf n].map bv) hq 1 1 rfl⟩
              go_wp2_with (at_builtin; refine wpList_append_row rfl (.tmp 28) (.tmp 31) 31 31 rfl 5 i0 _ 1 1 Tryd.underlying31 HI.out.1 HI.out.2.1 HI.out.2.2.1 HI.out.2.2.2 rfl rfl HAP.out.1 rfl (Src.rd 31 5 Tryd.underlying31 HAP.out.2 one_of_map) (by unfold maxLen; omega) (by omega) (by omega) ?_; intro a9 c9 w9 hr9 st9; have H9 := Lib.hid (And.intro hr9 st9); clear hr9 st9)
              have kY : Step [] [] Y (Y.alloc (.cells #[.int .u8 n] 5)) := (Step.refl [] Y).alloc _
              have HNX : Hid (Row w9 1 (some ⟨gn, 0, none⟩) 5 5 (evc x) ∧ (Row w9 1 a9 (m + 1) c9 ((bytesE (l.take i) ++ (x.ns.take (j + 1)).map byteOf).map bv) ∧ Step [] (blks a9) w w9) ∧ gn ∉ blks a9) := Lib.hid (by
                refine ⟨(HY.out.1.step kY (by simp)).step H9.out.2 (fun z hz hm => by simp [blks] at hz; subst hz; exact HY.out.2.2 hm), ⟨?_, (HY.out.2.1.2.trans (kY.keep _)).trans H9.out.2⟩, H9.out.2.notin (HY.out.1.step kY (by simp) |>.lt gn (by simp [blks])) HY.out.2.2⟩
                have e9 : (bytesE (l.take i) ++ (x.ns.take (j + 1)).map byteOf).map bv = (bytesE (l.take i) ++ (x.ns.take j).map byteOf).map bv ++ [byteOf n].map bv := by
                  rw [List.take_add_one, HNN.out]
                  simp
                rw [e9]
                exact H9.out.1)
              clear H9 HY HAP kY zc zl hwr
              go_wp2_with fail
              go_roundw
              case rel => exact ⟨j + 1, m + 1, a9, c9, by omega, by have := HM.out; omega, by go_num, rfl, HNX⟩
              case measure => simp [intOf]; omega
            · obtain rfl : j = 5 := by omega
              have HNX : Hid ((Row Y 1 pa (5 * (i + 1)) pc ((bytesE (l.take (i + 1))).map bv) ∧ Step [] (blks pa) w Y) ∧ ∀ (j : Nat) (y : Ev), j < i + 1 → l[j]? = some y → rightE y = true) := Lib.hid ⟨⟨by rw [bytesE_take l i x HX.out]; have h := HY.out.2.1.1; rw [show x.ns.take 5 = x.ns from rfl] at h; rwa [show m = 5 * (i + 1) by have := HM.out; omega] at h, HY.out.2.1.2⟩, fun j y hj hy => by by_cases hji : j = i; (subst hji; rw [HX.out] at hy; cases hy; exact HRX.out); exact HAL.out j y (by omega) hy⟩
              have hm5 : m = 5 * (i + 1) := by have := HM.out; omega
              clear HY HAL HM hmm
              subst hm5
              go_wp2_with fail
              go_roundw
              case rel => exact ⟨i + 1, pa, pc, by omega, by go_num, rfl, HNX⟩
              case measure => simp [intOf]; omega
      · obtain rfl : i = l.length := by omega
        have hnl : ¬ (l.length : Int) < l.length := by omega
        have HFE : Hid (FineE l) := Lib.hid ⟨h44, fun x hx => by obtain ⟨j, hj⟩ := List.getElem?_of_mem hx; exact HW.out.2 j x (List.getElem?_eq_some_iff.1 hj).1 hj⟩
        go_wp2_with fail
        exact bodyPost_ret (results_tmp2 rfl _ _ _) rfl ⟨HW.out.1.2.drop (by simp), .inl ⟨HFE.out, oa, oc, rfl, by have h := HW.out.1.1; rwa [List.take_length] at h⟩⟩
end Go.Proofs.YtnklfcejdkpjfaaDoor
