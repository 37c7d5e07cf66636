/-
  audit.text, law19's spoilt. Condition: at most 2^40 bytes, at most 2^40 lines.
-/
import Derived.Test.YtdiacfbflbenoaaAuditK
import Derived.Deep.DeepCutAuto
import Derived.Deep.CutBlock
namespace Go.Proofs.Ytdiacfbflbenoaa
open Go.RowKit
set_option linter.unusedSimpArgs false
set_option linter.unusedVariables false
set_option maxRecDepth 100000

set_option maxHeartbeats 4000000 in
theorem auditText_any (l : List (List UInt8)) (a : Option Addr) (cap : Nat) (w : World) (hr : Rd w 1 a l.length (l.map Str)) (hl : l.length ≤ 1099511627776) (hb : (joined l).length ≤ 1099511627776) :
    Calls Try.prog 32 #[.slice a l.length cap] w fun e w' => e = .returned (Str (joined l)) ∧ Step [] [] w w' := by
  obtain ⟨i0, hi, hz0, hz1, hz2⟩ := info_parts Try.info_bytes
  have HI := Lib.hid (And.intro hi (And.intro hz0 (And.intro hz1 hz2)))
  clear hi hz0 hz1 hz2
  have HR := Lib.hid hr
  clear hr
  go_enter Try.func32, Try.ntmps32
  go_wp2_with fail
  go_loopw [3, 9] (fun v i wr => ∃ (k n : Nat) (a2 : Option Addr) (cap2 : Nat), k ≤ l.length ∧ i = .int .i64 k ∧ v = .slice a2 n cap2 ∧ n ≤ 1099511627776 ∧ Hid (n = (joined (l.take k)).length ∧ Row wr 1 a2 n cap2 ((joined (l.take k)).map bv) ∧ Step [] (blks a2) w wr)) (fun _ i _ => l.length - (intOf i).toNat)
  case atStart => exact ⟨0, 0, none, 0, by omega, rfl, rfl, by omega, rfl, Row.none _ _, Step.refl _ _⟩
  case round =>
    rename World => V
    obtain ⟨k, n, a2, cap2, hk, rfl, rfl, hn, HW⟩ := hrel
    by_cases hlt : k < l.length
    · have hlt' : (k : Int) < l.length := by omega
      obtain ⟨x, hx⟩ : ∃ x, l[k]? = some x := ⟨_, List.getElem?_eq_getElem hlt⟩
      obtain ⟨g, off, rfl⟩ := HR.out.some_ (by omega)
      have cx := (HR.out.step0 (HW.out.2.2)).cell g off none rfl k (Str x) (by simp [hx])
      have hbx : n + (8 + x.length) ≤ 1099511627776 := by
        have h1 := joined_take_len l (k + 1)
        rw [joined_take l k x hx, List.length_append] at h1
        simp [len8] at h1
        have := HW.out.1
        omega
      have HX := Lib.hid hx
      clear hx
      go_upto_block 2 with fail
      go_cut [3] (fun v wx => ∃ (a3 : Option Addr) (cap3 : Nat), v = .slice a3 (n + 8) cap3 ∧ Hid (Row wx 1 a3 (n + 8) cap3 ((joined (l.take k) ++ len8 x.length).map bv) ∧ Step [] (blks a3) w wx))
      case first =>
        go_wp2_with fail
        go_loopw [3, 6] (fun v j wr => ∃ (i m : Nat) (a3 : Option Addr) (cap3 : Nat), i ≤ 8 ∧ m = n + i ∧ v = .slice a3 m cap3 ∧ j = .int .i64 (56 - 8 * (i : Int)) ∧ Hid (Row wr 1 a3 m cap3 ((joined (l.take k) ++ (len8 x.length).take i).map bv) ∧ Step [] (blks a3) w wr))
          (fun _ j _ => (intOf j + 8).toNat)
        case atStart => exact ⟨0, n, a2, cap2, by omega, rfl, rfl, rfl, by simpa using HW.out.2.1, HW.out.2.2⟩
        case round =>
          rename World => wr
          obtain ⟨i, m, a3, cap3, hi, hm, rfl, rfl, HV⟩ := hrel
          by_cases hlt2 : i < 8
          · have hk0 : (0 : Int) ≤ 56 - 8 * (i : Int) := by omega
            have hby := lb_int x.length i hlt2
            have hm2 : m ≤ 1099511627776 := by omega
            have HM := Lib.hid hm
            clear hm
            go_wp2_with (at_builtin; refine wpList_append_row rfl (.tmp 17) (.tmp 24) 26 26 rfl 5 i0 _ 1 1 Try.underlying26 HI.out.1 HI.out.2.1 HI.out.2.2.1 HI.out.2.2.2 rfl rfl (HV.out.1.alloc _) rfl (Src.rd 26 5 Try.underlying26 (row_fresh wr 5 [bv (lb x.length i)] (by simp; unfold maxLen; omega)).rd (one_of_map (l := [lb x.length i]))) (by unfold maxLen; omega) (by omega) (by omega) ?_; intro a4 cap4 w4 hr4 hst4)
            go_roundw
            case rel =>
              refine ⟨i + 1, m + 1, a4, cap4, by omega, by have := HM.out; omega, rfl, by go_num, ?_, (HV.out.2.alloc _).trans hst4⟩
              rw [len8_take _ _ hlt2, ← List.append_assoc, List.map_append]
              exact hr4
            case measure => simp [intOf]; omega
          · have hk0 : ¬ (0 : Int) ≤ 56 - 8 * (i : Int) := by omega
            have hi8 := Lib.hid (show i = 8 by omega)
            have HM := Lib.hid hm
            clear hm
            go_wp2_with fail
            go_meet
            case rel =>
              obtain rfl : i = 8 := hi8.out
              have := HM.out
              subst this
              exact ⟨_, _, rfl, HV.out.1, HV.out.2⟩
      case rest =>
        rename World => V2
        obtain ⟨a3, cap3, rfl, HF⟩ := hcut
        go_wp2_with (at_builtin; refine wpList_append_row rfl (.tmp 26) (.tmp 27) 26 9 rfl 5 i0 _ 1 1 Try.underlying26 HI.out.1 HI.out.2.1 HI.out.2.2.1 HI.out.2.2.2 rfl rfl HF.out.1 rfl (Src.str V2 9 Try.underlying9 x) (by unfold maxLen; omega) (by omega) (by omega) ?_; intro a5 cap5 w5 hr5 hst5)
        have H5 : Hid (Row w5 1 a5 (n + 8 + x.length) cap5 ((joined (l.take (k + 1))).map bv) ∧ Step [] (blks a5) w w5 ∧ n + 8 + x.length = (joined (l.take (k + 1))).length) := by
          rw [joined_take l k x HX.out]
          refine ⟨?_, HF.out.2.trans hst5, ?_⟩
          · simpa [List.append_assoc] using hr5
          · have := HW.out.1
            simp [len8]
            omega
        clear hr5 hst5
        go_wp2_with fail
        go_roundw
        case rel => exact ⟨k + 1, n + 8 + x.length, a5, cap5, by omega, by go_num, rfl, by omega, H5.out.2.2, H5.out.1, H5.out.2.1⟩
        case measure => simp [intOf]; omega
    · obtain rfl : k = l.length := by omega
      have hs := run_str_of_row 26 9 5 Try.underlying26 Try.underlying5 Try.underlying9 HW.out.2.1
      rw [List.take_length] at hs
      obtain ⟨J, hJ⟩ : ∃ J, J = joined l := ⟨_, rfl⟩
      have HJ := Lib.hid hJ
      rw [← hJ] at hs
      clear hJ
      go_wp2_with fail
      exact bodyPost_ret (results_tmp rfl _ _ _) rfl ⟨by rw [← HJ.out]; rfl, HW.out.2.2.drop (by simp)⟩

def spoiltL (l : List Ln) (at_ : Int) (x : Ln) : List Ln := if 0 ≤ at_ ∧ at_ < l.length then l.set at_.toNat x else l
def SpoiltPost (l : List Ln) (w : World) (e : Ending) (w' : World) : Prop := ∃ a cap, e = .returned (.slice a l.length cap) ∧ Rd w' 8 a l.length (lncs l) ∧ Step [] [] w w'
theorem spoilt_len (l : List Ln) (i : Int) (x : Ln) : (spoiltL l i x).length = l.length := by unfold spoiltL; split <;> simp
theorem lncs_set (l : List Ln) (k : Nat) (x : Ln) (h : k < l.length) :
    ((((((((lncs l).set (k * 8) (.int .i64 x.index)).set (k * 8 + 1) (.int .i64 x.client)).set (k * 8 + 2) (.int .i64 x.seq)).set (k * 8 + 3) (Str x.user)).set (k * 8 + 4) (.int .i64 x.kind)).set (k * 8 + 5) (.int .i64 x.err)).set (k * 8 + 6) (Str x.digest)).set (k * 8 + 7) (Str x.hash) = lncs (l.set k x) := by
  induction l generalizing k with
  | nil => simp at h
  | cons y l ih =>
    cases k with
    | zero => simp [lncs, lnc]
    | succ k =>
      have := ih k (by simpa using h)
      have e : ∀ j, (k + 1) * 8 + j = (k * 8 + j) + 8 := fun j => by omega
      have e0 : (k + 1) * 8 = k * 8 + 8 := by omega
      simp only [lncs, List.flatMap_cons, List.set_cons_succ] at this ⊢
      rw [← this]
      simp only [e, e0, lnc, List.cons_append, List.nil_append, List.set_cons_succ]
theorem row_line {w : World} {l : List Ln} {g off n cap : Nat} (h : Row w 8 (some ⟨g, off, none⟩) n cap (lncs l)) (k : Nat) (x : Ln) (hk : k < n) (hl : l.length = n) :
    Row ((((((((w.setCell ⟨g, off + k * 8, none⟩ (.int .i64 x.index)).setCell ⟨g, off + k * 8 + 1, none⟩ (.int .i64 x.client)).setCell ⟨g, off + k * 8 + 2, none⟩ (.int .i64 x.seq)).setCell ⟨g, off + k * 8 + 3, none⟩ (Str x.user)).setCell ⟨g, off + k * 8 + 4, none⟩ (.int .i64 x.kind)).setCell ⟨g, off + k * 8 + 5, none⟩ (.int .i64 x.err)).setCell ⟨g, off + k * 8 + 6, none⟩ (Str x.digest)).setCell ⟨g, off + k * 8 + 7, none⟩ (Str x.hash))
      8 (some ⟨g, off, none⟩) n cap (lncs (l.set k x)) := by
  rw [← lncs_set l k x (by omega)]
  have h0 := h.set rfl (k * 8) (by omega) (.int .i64 x.index)
  have h1 := h0.set rfl (k * 8 + 1) (by omega) (.int .i64 x.client)
  have h2 := h1.set rfl (k * 8 + 2) (by omega) (.int .i64 x.seq)
  have h3 := h2.set rfl (k * 8 + 3) (by omega) (Str x.user)
  have h4 := h3.set rfl (k * 8 + 4) (by omega) (.int .i64 x.kind)
  have h5 := h4.set rfl (k * 8 + 5) (by omega) (.int .i64 x.err)
  have h6 := h5.set rfl (k * 8 + 6) (by omega) (Str x.digest)
  have h7 := h6.set rfl (k * 8 + 7) (by omega) (Str x.hash)
  simpa only [← Nat.add_assoc] using h7
set_option maxHeartbeats 4000000 in
theorem spoilt_any (l : List Ln) (i : Int) (x : Ln) (a : Option Addr) (cap : Nat) (w : World) (hr : Rd w 8 a l.length (lncs l)) (hl : l.length ≤ 1099511627776) (hi1 : -9223372036854775808 ≤ i) (hi2 : i < 9223372036854775808) :
    Calls Try.prog 20 #[.slice a l.length cap, .int .i64 i, lnV x] w (SpoiltPost (spoiltL l i x) w) := by
  obtain ⟨i0, hi, hz0, hz1, hz2⟩ := info_parts Try.info_line
  have HI := Lib.hid (And.intro hi (And.intro hz0 (And.intro hz1 hz2)))
  clear hi hz0 hz1 hz2
  obtain ⟨W, hW⟩ : ∃ W, W = (w.alloc (.cells (lnc x).toArray 32)).alloc (.cells #[] 32) := ⟨_, rfl⟩
  have HS : Hid (Src Try.prog W 8 27 (.slice a l.length cap) l.length (lncs l)) := Lib.hid (by rw [hW]; exact Src.rd _ _ Try.underlying27 ((hr.alloc _).alloc _) (lncs_one l))
  have HB : Hid (Blk W w.heap.size 32 (lnc x).toArray ∧ Step [] [w.heap.size + 1] w W ∧ Row W 8 (some ⟨w.heap.size + 1, 0, none⟩) 0 0 []) := by
    have e : (w.alloc (.cells (lnc x).toArray 32)).heap.size = w.heap.size + 1 := by simp
    have r := Row.empty (w.alloc (.cells (lnc x).toArray 32)) 32 8
    have s := ((Step.refl [] w).alloc (.cells (lnc x).toArray 32)).hold (.cells #[] 32)
    rw [e] at r s
    rw [hW]
    exact ⟨(Blk.new w _ _).alloc _, s, r⟩
  clear hr
  have HW := Lib.hid hW
  clear hW
  have hil : (0 ≤ i ∧ i < (l.length : Int)) ∨ ¬ (0 ≤ i ∧ i < (l.length : Int)) := Classical.em _
  go_enter Try.func20, Try.ntmps20
  go_upto_region 2 with (at_builtin; rw [show (w.alloc (.cells #[.int .i64 x.index, .int .i64 x.client, .int .i64 x.seq, .string ⟨x.user.toArray⟩, .int .i64 x.kind, .int .i64 x.err, .string ⟨x.digest.toArray⟩, .string ⟨x.hash.toArray⟩] 32)).alloc (.cells #[] 32) = W from HW.out.symm]; refine wpList_append_row rfl (.tmp 8) (.tmp 9) 27 27 rfl 32 i0 _ 8 88 Try.underlying27 HI.out.1 HI.out.2.1 HI.out.2.2.1 HI.out.2.2.2 rfl rfl HB.out.2.2 rfl HS.out (by unfold maxLen; omega) (by omega) (by omega) ?_; intro a5 c5 w5 hr5 st5; rw [Nat.zero_add, List.nil_append] at hr5; rw [Nat.zero_add]; have H5 : Hid (Row w5 8 a5 l.length c5 (lncs l) ∧ Step [] (blks a5) w w5 ∧ Blk w5 w.heap.size 32 (lnc x).toArray ∧ w.heap.size ∉ blks a5) := ⟨hr5, HB.out.2.1.trans st5, HB.out.1.step st5 (by simp [blks]), st5.notin HB.out.1.lt (by simp [blks])⟩; clear hr5 st5)
  by_cases h0 : 0 ≤ i
  · by_cases h1 : i < (l.length : Int)
    · obtain ⟨k, rfl⟩ : ∃ k : Nat, i = (k : Int) := ⟨i.toNat, by omega⟩
      have hk : k < l.length := by omega
      obtain ⟨x0, hx0⟩ : ∃ x0, l[k]? = some x0 := ⟨_, List.getElem?_eq_getElem hk⟩
      obtain ⟨g, off, rfl⟩ := H5.out.1.some_of_pos (by omega)
      have cl := rd_line H5.out.1.rd hx0
      have f0 := (H5.out.1.cell rfl (k * 8) (by omega)).2.1
      have f1 := (H5.out.1.cell rfl (k * 8 + 1) (by omega)).2.1
      rw [← Nat.add_assoc] at f1
      have f2 := (H5.out.1.cell rfl (k * 8 + 2) (by omega)).2.1
      rw [← Nat.add_assoc] at f2
      have f3 := (H5.out.1.cell rfl (k * 8 + 3) (by omega)).2.1
      rw [← Nat.add_assoc] at f3
      have f4 := (H5.out.1.cell rfl (k * 8 + 4) (by omega)).2.1
      rw [← Nat.add_assoc] at f4
      have f5 := (H5.out.1.cell rfl (k * 8 + 5) (by omega)).2.1
      rw [← Nat.add_assoc] at f5
      have f6 := (H5.out.1.cell rfl (k * 8 + 6) (by omega)).2.1
      rw [← Nat.add_assoc] at f6
      have f7 := (H5.out.1.cell rfl (k * 8 + 7) (by omega)).2.1
      rw [← Nat.add_assoc] at f7
      have gl := H5.out.1.lt g (by simp [blks])
      have bl := H5.out.2.2.1.ln
      have ll := H5.out.2.2.1.lt
      have hne : w.heap.size ≠ g := by have := H5.out.2.2.2; simpa [blks] using this
      have hne2 : g ≠ w.heap.size := fun e => hne e.symm
      have HK := Lib.hid hk
      clear hx0
      go_wp2_with fail
      have R := row_line H5.out.1 k x HK.out rfl
      have ss : Step [g] [g] w5 _ := ((((((((Step.refl [g] w5).setCell (p := ⟨g, off + k * 8, none⟩) (.inl (by simp)) (.int .i64 x.index)).setCell (p := ⟨g, off + k * 8 + 1, none⟩) (.inl (by simp)) (.int .i64 x.client)).setCell (p := ⟨g, off + k * 8 + 2, none⟩) (.inl (by simp)) (.int .i64 x.seq)).setCell (p := ⟨g, off + k * 8 + 3, none⟩) (.inl (by simp)) (Str x.user)).setCell (p := ⟨g, off + k * 8 + 4, none⟩) (.inl (by simp)) (.int .i64 x.kind)).setCell (p := ⟨g, off + k * 8 + 5, none⟩) (.inl (by simp)) (.int .i64 x.err)).setCell (p := ⟨g, off + k * 8 + 6, none⟩) (.inl (by simp)) (Str x.digest)).setCell (p := ⟨g, off + k * 8 + 7, none⟩) (.inl (by simp)) (Str x.hash)
      have hsp : spoiltL l (k : Int) x = l.set k x := by unfold spoiltL; rw [if_pos ⟨by omega, by have := HK.out; omega⟩]; simp
      refine bodyPost_ret (results_tmp rfl _ _ _) rfl ⟨some ⟨g, off, none⟩, c5, ?_, ?_, ?_⟩
      · rw [hsp, List.length_set]; rfl
      · rw [hsp, List.length_set]; exact R.rd
      · exact (H5.out.2.1.trans ss).drop (by simp)
    · have hsp := Lib.hid (show spoiltL l i x = l by unfold spoiltL; rw [if_neg (by omega)])
      go_wp2_with fail
      exact bodyPost_ret (results_tmp rfl _ _ _) rfl ⟨a5, c5, by rw [hsp.out]; rfl, by rw [hsp.out]; exact H5.out.1.rd, H5.out.2.1.drop (by simp)⟩
  · have hsp := Lib.hid (show spoiltL l i x = l by unfold spoiltL; rw [if_neg (by omega)])
    go_wp2_with fail
    exact bodyPost_ret (results_tmp rfl _ _ _) rfl ⟨a5, c5, by rw [hsp.out]; rfl, by rw [hsp.out]; exact H5.out.1.rd, H5.out.2.1.drop (by simp)⟩
end Go.Proofs.Ytdiacfbflbenoaa
