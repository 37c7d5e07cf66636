/-
  A text's event: Parse. Condition: Itoa's table as Go lays it; at most 1000000 bytes.
-/
import Derived.Test.YtnklfcejdkpjfaaDoorScrB
import Derived.Laws.RangeAny
namespace Go.Proofs.YtnklfcejdkpjfaaDoor
open Go.RowKit
set_option linter.unusedSimpArgs false
set_option linter.unusedVariables false
set_option maxRecDepth 100000

theorem split_any (s : List UInt8) (w : World) (hT : STabs w) (hs : s.length ≤ 1000000) : Calls Tryd.prog 23 #[Str s, .string ⟨#[32]⟩] w fun e w' => e = .returned (.slice (some ⟨w.heap.size, 0, none⟩) (Lib.split s [32]).length (Lib.split s [32]).length) ∧ w' = w.alloc (.cells ((Lib.split s [32]).map Str).toArray 9) := by
  obtain ⟨m, hm⟩ := hT.ml
  have hsz : (⟨s.toArray⟩ : ByteArray).size = s.length := by simp [ByteArray.size]
  refine (Tryd.strings_Split ⟨s.toArray⟩ ⟨#[32]⟩ m w (by rw [hsz]; omega) hm (by decide)).mono ?_
  have hd := Lib.splitB_data ⟨#[32]⟩ 0 (Lib.countB ⟨s.toArray⟩ ⟨#[32]⟩) ⟨s.toArray⟩
  have hc : Lib.countB ⟨s.toArray⟩ ⟨#[32]⟩ = Lib.count s [32] := by simp [Lib.countB]
  have hq : (Lib.splitB ⟨#[32]⟩ 0 (Lib.countB ⟨s.toArray⟩ ⟨#[32]⟩) ⟨s.toArray⟩).map (·.data.toList) = Lib.split s [32] := by
    rw [hd, hc]
    simp [Lib.split]
  have hl : (Lib.split s [32]).length = Lib.countB ⟨s.toArray⟩ ⟨#[32]⟩ + 1 := by
    rw [← hq, List.length_map]
    exact Lib.splitB_all ⟨#[32]⟩ (by decide) 0 _ _ rfl
  have hv : (Lib.split s [32]).map Str = (Lib.splitB ⟨#[32]⟩ 0 (Lib.countB ⟨s.toArray⟩ ⟨#[32]⟩) ⟨s.toArray⟩).map Value.string := by
    rw [← hq, List.map_map]
    rfl
  rintro e w' ⟨rfl, rfl⟩
  rw [hl, hv]
  exact ⟨rfl, rfl⟩
theorem Step.ownS {w w1 w' : World} {S S' : List Nat} {b : Nat} (h : Step S S' w w1) (k : Step [b] [b] w1 w') (hb : w.heap.size ≤ b) : Step S S' w w' := by
  have h1 : Step S (S' ++ [b]) w w1 := h.wide (fun _ h => h) (fun g hg => by
    rcases List.mem_append.1 hg with hg | hg
    · exact .inr (.inl hg)
    · simp at hg; subst hg; exact .inr (.inr hb))
  exact (h1.trans (k.frame S')).drop fun g hg => List.mem_append_left _ hg
theorem nums_all (f : Bool) (l : List (List UInt8)) (ns : List Nat) (hl : ns.length = l.length) (h : ∀ (j : Nat) (w : List UInt8) (n : Nat), l[j]? = some w → ns[j]? = some n → numW (f && decide (j = 0)) w = some n) : numsW f l = some ns := by
  induction l generalizing f ns with
  | nil => cases ns with | nil => rfl | cons => simp at hl
  | cons w l ih =>
    cases ns with
    | nil => simp at hl
    | cons n ns =>
      have h0 := h 0 w n rfl rfl
      simp only [decide_true, Bool.and_true] at h0
      rw [numsW, h0, ih false ns (by simpa using hl) (fun j u m hu hm => by simpa using h (j + 1) u m (by simpa using hu) (by simpa using hm))]
theorem nums_none (f : Bool) (l : List (List UInt8)) (j : Nat) (w : List UInt8) (hj : l[j]? = some w) (hn : numW (f && decide (j = 0)) w = none) : numsW f l = none := by
  induction l generalizing f j with
  | nil => simp at hj
  | cons u l ih =>
    cases j with
    | zero =>
      simp at hj
      subst hj
      simp only [decide_true, Bool.and_true] at hn
      rw [numsW, hn]
    | succ j =>
      rw [numsW, ih false j (by simpa using hj) (by simpa using hn)]
      split
      · simp_all
      · rfl
def arrc (ns : List Nat) : List Value := [.int .i64 (ns[0]?.getD 0 : Nat), .int .i64 (ns[1]?.getD 0 : Nat), .int .i64 (ns[2]?.getD 0 : Nat), .int .i64 (ns[3]?.getD 0 : Nat), .int .i64 (ns[4]?.getD 0 : Nat)]
theorem arrc_ev (ns : List Nat) : arrc ns = evc (evOf ns) := rfl
theorem arrc_at (ns : List Nat) (j : Nat) (hj : j < 5) : (arrc ns)[j]? = some (.int .i64 (ns[j]?.getD 0 : Nat)) := by
  match j, hj with
  | 0, _ => rfl
  | 1, _ => rfl
  | 2, _ => rfl
  | 3, _ => rfl
  | 4, _ => rfl
theorem arrc_zero (ns : List Nat) : arrc (ns ++ [0]) = arrc ns := by
  have h : ∀ j : Nat, (ns ++ [0])[j]?.getD 0 = ns[j]?.getD 0 := by
    intro j
    rcases Nat.lt_trichotomy j ns.length with h | h | h
    · rw [List.getElem?_append_left h]
    · subst h; simp
    · rw [List.getElem?_eq_none (by simp; omega), List.getElem?_eq_none (by omega)]
  simp only [arrc, h]
theorem arrc_last (ns : List Nat) (a b : Nat) (h : ns.length < 5) : ((arrc (ns ++ [a])).set ns.length (.int .i64 (b : Int))) = arrc (ns ++ [b]) := by
  match ns, h with
  | [], _ => rfl
  | [_], _ => rfl
  | [_, _], _ => rfl
  | [_, _, _], _ => rfl
  | [_, _, _, _], _ => rfl
  | _ :: _ :: _ :: _ :: _ :: l, h => simp at h; omega
theorem parse_long {s : List UInt8} (h : 5 < (Lib.split s [32]).length) : parseC s = (evZ, false) := by rw [parseC, parseE, if_pos h]
theorem parse_bad {s : List UInt8} (h : numsW true (Lib.split s [32]) = none) : parseC s = (evZ, false) := by
  rw [parseC, parseE, h]
  by_cases h5 : 5 < (Lib.split s [32]).length
  · rw [if_pos h5]
  · rw [if_neg h5]
theorem parse_fit {s : List UInt8} {ns : List Nat} (h0 : ¬ 5 < (Lib.split s [32]).length) (h : numsW true (Lib.split s [32]) = some ns) : parseC s = if rightE (evOf ns) = true ∧ lineE (evOf ns) = s then (evOf ns, true) else (evZ, false) := by
  rw [parseC, parseE, if_neg h0, h]
  by_cases h5 : rightE (evOf ns) = true ∧ lineE (evOf ns) = s
  · simp only [if_pos h5]
  · simp only [if_neg h5]
/-! ### a range over a text -/
def setIt (w : World) (k : Nat) (s : ByteArray) (p : Nat) : World := { w with heap := w.heap.setIfInBounds k (.stringIter s p) }
theorem run_next_yes {P : Program} (w : World) (k : Nat) (s : ByteArray) (pos : Nat) (ty : TypeId) (hk : w.heap[k]? = some (.stringIter s pos)) (h : pos < s.size) :
    (Instr.next (.pointer (some ⟨k, 0, none⟩)) true ty).run P w = .ok (.tuple #[.bool true, .int .i64 pos, .int .i32 (Utf8.decode s pos).1]) (setIt w k s (pos + (Utf8.decode s pos).2)) := by
  simp only [Instr.next, getObj, setObj, Sem.run_bind, Sem.run, hk, Result.andThen, h, if_true]
  simp [goInt, setIt]
theorem run_next_no {P : Program} (w : World) (k : Nat) (s : ByteArray) (pos : Nat) (ty : TypeId) (hk : w.heap[k]? = some (.stringIter s pos)) (h : ¬ pos < s.size) :
    (Instr.next (.pointer (some ⟨k, 0, none⟩)) true ty).run P w = .ok (.tuple #[.bool false]) w := by
  simp [Instr.next, getObj, Sem.run, hk, h]
theorem setIt_at (w : World) (k : Nat) (s : ByteArray) (p : Nat) (hk : k < w.heap.size) : (setIt w k s p).heap[k]? = some (.stringIter s p) := by simp [setIt, hk]
theorem setIt_step (w : World) (k : Nat) (s : ByteArray) (p : Nat) : Step [k] [k] w (setIt w k s p) :=
  ⟨rfl, rfl, rfl, by simp [setIt], fun g hg hn => by simp only [setIt]; rw [Array.getElem?_setIfInBounds_ne (by intro e; subst e; simp at hn)], fun g hg => .inl hg⟩
theorem setCell_it (w : World) (p : Addr) (v : Value) (k : Nat) (h : p.block ≠ k) : (w.setCell p v).heap[k]? = w.heap[k]? := Below.heap_setCell w p v k (fun e => h e.symm)
theorem iterPos_it {w : World} {k : Nat} {s : ByteArray} {p : Nat} (h : w.heap[k]? = some (.stringIter s p)) : w.iterPos k = p := by simp [World.iterPos, h]
theorem rune_low (l : List UInt8) (p : Nat) (c : UInt8) (h : l[p]? = some c) (hc : c.toNat < 128) : Utf8.decode ⟨l.toArray⟩ p = (c.toNat, 1) := by
  have hp := (List.getElem?_eq_some_iff.1 h).1
  have hs : p < (⟨l.toArray⟩ : ByteArray).size := by simpa [ByteArray.size] using hp
  have e : (⟨l.toArray⟩ : ByteArray)[p]'hs = c := by
    have e1 : (⟨l.toArray⟩ : ByteArray)[p]'hs = l.toArray[p]'(by simpa using hp) := rfl
    rw [e1, List.getElem_toArray]
    exact (List.getElem?_eq_some_iff.1 h).2
  rw [decode_ascii _ p hs (by rw [e]; exact hc), e]
theorem rune_high (l : List UInt8) (p : Nat) (c : UInt8) (h : l[p]? = some c) (hc : ¬ c.toNat < 128) : 128 ≤ (Utf8.decode ⟨l.toArray⟩ p).1 := by
  have hp := (List.getElem?_eq_some_iff.1 h).1
  have hs : p < (⟨l.toArray⟩ : ByteArray).size := by simpa [ByteArray.size] using hp
  have e : (⟨l.toArray⟩ : ByteArray)[p]'hs = c := by
    have e1 : (⟨l.toArray⟩ : ByteArray)[p]'hs = l.toArray[p]'(by simpa using hp) := rfl
    rw [e1, List.getElem_toArray]
    exact (List.getElem?_eq_some_iff.1 h).2
  exact (decode_high _ p hs (by rw [e]; omega)).1
theorem digs_step {l : List UInt8} {p acc : Nat} {c : UInt8} (h : l[p]? = some c) : digs acc (l.drop p) = if c.toNat < 48 ∨ 57 < c.toNat ∨ 255 < acc then none else digs (acc * 10 + (c.toNat - 48)) (l.drop (p + 1)) := by
  have hp := (List.getElem?_eq_some_iff.1 h).1
  have e := (List.getElem?_eq_some_iff.1 h).2
  rw [List.drop_eq_getElem_cons hp, e, digs]
theorem numW_digs {f : Bool} {w : List UInt8} (h : ¬ (f = true ∧ w ∈ namesE)) : numW f w = digs 0 w := by rw [numW, if_neg h]
theorem numW_name {w : List UInt8} (h : w ∈ namesE) : numW true w = some (namesE.idxOf w) := by rw [numW, if_pos ⟨rfl, h⟩]
theorem lt_of_blockS {w : World} {k : Nat} {x : Obj} (h : w.heap[k]? = some x) : k < w.heap.size := by
  rcases Nat.lt_or_ge k w.heap.size with h1 | h1
  · exact h1
  · rw [Array.getElem?_eq_none h1] at h; cases h
set_option maxHeartbeats 16000000 in
theorem parse_any (s : List UInt8) (w : World) (hT : STabs w) (hs : s.length ≤ 1000000) : Calls Tryd.prog 10 #[Str s] w fun e w' => e = .returned (.tuple #[evV (parseC s).1, .bool (parseC s).2]) ∧ Step [] [] w w' := by
  have HTT := Lib.hid hT
  have HL := Lib.hid hs
  clear hT hs
  have H00 : Hid (Blk (w.alloc (.cells (evc evZ).toArray 23)) w.heap.size 23 (evc evZ).toArray ∧ Step [] [] w (w.alloc (.cells (evc evZ).toArray 23))) := Lib.hid ⟨Blk.new w _ _, (Step.refl [] w).alloc _⟩
  go_enter Tryd.func10, Tryd.ntmps10
  go_upto_region 1 with fail
  change Code.wp _ _ _ _ (w.alloc (.cells (evc evZ).toArray 23))
  obtain ⟨rb, hb⟩ : ∃ b, b = w.heap.size := ⟨_, rfl⟩
  obtain ⟨V, hV⟩ : ∃ V, V = (w.alloc (.cells (evc evZ).toArray 23)) := ⟨_, rfl⟩
  rw [← hV, ← hb] at H00
  have H0 := H00
  rw [← hV]
  try rw [← hb]
  have HRB := Lib.hid (show w.heap.size ≤ rb by omega)
  clear hV hb H00
  go_wp2_with fail
  refine (split_any s V (HTT.out.step H0.out.2) HL.out).mono ?_
  rintro e w1 ⟨rfl, hw1⟩
  obtain ⟨ws, hws⟩ : ∃ ws, ws = (Lib.split s [32]) := ⟨_, rfl⟩
  rw [← hws] at hw1 ⊢
  have HWS := Lib.hid hws
  clear hws
  obtain ⟨sb, hsb⟩ : ∃ b, b = V.heap.size := ⟨_, rfl⟩
  rw [← hsb]
  have k1 : Step [] [] V w1 := by rw [hw1]; exact (Step.refl [] V).alloc _
  have H1 : Hid (Blk w1 rb 23 (evc evZ).toArray ∧ Blk w1 sb 9 (ws.map Str).toArray ∧ Step [] [] w w1 ∧ rb < sb ∧ sb < w1.heap.size) := Lib.hid ⟨H0.out.1.step k1 (by simp), by rw [hw1, hsb]; exact Blk.new V _ _, H0.out.2.trans k1, by rw [hsb]; exact H0.out.1.lt, by rw [hw1, hsb]; simp⟩
  clear k1 hw1 hsb H0
  by_cases h5 : 5 < ws.length
  · have h5d : decide (5 < ws.length) = true := decide_eq_true h5
    have h5i : decide ((5 : Int) < (ws.length : Int)) = true := decide_eq_true (by omega)
    have HV : Hid (parseC s = (evZ, false)) := Lib.hid (parse_long (by rw [← HWS.out]; exact h5))
    clear h5
    go_wp2_with (refine wpList_storeRow (T := 23) (b := rb) (T' := 23) (cs := (evc evZ).toArray) (vs := (evc evZ).toArray) rfl (.tmp 2) (.tmp 19) rfl rfl rfl Tryd.sEv H1.out.1 rfl (evc_one _) ?_; intro U ub uk)
    exact bodyPost_ret (res_row2 (T := 23) (cs := (evc evZ).toArray) (p := 2) (u := 3) rfl _ rfl Tryd.sEv ub) rfl ⟨by rw [HV.out] <;> rfl, H1.out.2.2.1.ownS uk HRB.out⟩
  · have h5d : decide (5 < ws.length) = false := decide_eq_false h5
    have h5i : decide ((5 : Int) < (ws.length : Int)) = false := decide_eq_false (by omega)
    have h55 : ws.length ≤ 5 := by omega
    clear h5
    go_upto_region 5 with fail
    clear h5d h5i
    obtain ⟨ab, hab⟩ : ∃ b, b = w1.heap.size := ⟨_, rfl⟩
    obtain ⟨V2, hV2⟩ : ∃ V, V = w1.alloc (.cells (arrc []).toArray 45) := ⟨_, rfl⟩
    have k2 : Step [] [] w1 V2 := by rw [hV2]; exact (Step.refl [] w1).alloc _
    have H2 : Hid (Blk V2 rb 23 (evc evZ).toArray ∧ Blk V2 sb 9 (ws.map Str).toArray ∧ Blk V2 ab 45 (arrc []).toArray ∧ Step [] [] w V2) := Lib.hid ⟨H1.out.1.step k2 (by simp), H1.out.2.1.step k2 (by simp), by rw [hV2, hab]; exact Blk.new w1 _ _, H1.out.2.2.1.trans k2⟩
    have HNE : Hid (rb ≠ ab ∧ sb ≠ ab ∧ w.heap.size ≤ ab) := Lib.hid ⟨by have := H1.out.2.2.2; omega, by have := H1.out.2.2.2; omega, by have := H1.out.2.2.1.size; omega⟩
    change Code.wp _ _ _ _ (w1.alloc (.cells (arrc []).toArray 45))
    rw [← hV2]
    try rw [← hab]
    clear hV2 hab k2 H1
    go_wp2_with fail
    go_loopw [22] (fun v W => ∃ (i : Nat) (ns : List Nat), i ≤ ws.length ∧ ns.length = i ∧ v = .int .i64 i ∧ Hid ((Blk W rb 23 (evc evZ).toArray ∧ Blk W sb 9 (ws.map Str).toArray ∧ Blk W ab 45 (arrc ns).toArray ∧ Step [] [] w W) ∧ (∀ (j : Nat) (u : List UInt8) (n : Nat), ws[j]? = some u → ns[j]? = some n → numW (true && decide (j = 0)) u = some n))) (fun v _ => ws.length - (intOf v).toNat)
    case atStart => exact ⟨0, [], by omega, rfl, rfl, Lib.hid ⟨H2.out, by intro j u n _ hn; simp at hn⟩⟩
    case round =>
      clear H2
      rename World => W
      obtain ⟨i, ns, hi, hns, rfl, HW⟩ := hrel
      by_cases hlt : i < ws.length
      · have hlt' : (i : Int) < ws.length := by omega
        obtain ⟨wd, hwd⟩ : ∃ x, ws[i]? = some x := ⟨_, List.getElem?_eq_getElem hlt⟩
        have zc : W.cell? ⟨sb, i, none⟩ = some (Str wd) := by rw [HW.out.1.2.1.cell, List.getElem?_toArray, List.getElem?_map, hwd]; rfl
        have zl := HW.out.1.2.1.lt
        have HWD := Lib.hid hwd
        clear hwd
        go_wp2_with fail
        refine (names_any W).mono ?_
        rintro e w3 ⟨rfl, hw3⟩
        obtain ⟨nb, hnb⟩ : ∃ b, b = W.heap.size := ⟨_, rfl⟩
        rw [← hnb]
        have k3 : Step [] [] W w3 := by rw [hw3]; exact (Step.refl [] W).alloc _
        have b3 : Blk w3 nb 9 (namesE.map Str).toArray := by rw [hw3, hnb]; exact Blk.new W _ _
        have H3 : Hid ((Blk w3 rb 23 (evc evZ).toArray ∧ Blk w3 sb 9 (ws.map Str).toArray ∧ Blk w3 ab 45 (arrc ns).toArray ∧ Step [] [] w w3) ∧ Rd w3 1 (some ⟨nb, 0, none⟩) 17 (namesE.map Str)) := Lib.hid ⟨⟨HW.out.1.1.step k3 (by simp), HW.out.1.2.1.step k3 (by simp), HW.out.1.2.2.1.step k3 (by simp), HW.out.1.2.2.2.trans k3⟩, rd_blk' (xs := namesE.map Str) b3 1 17 rfl⟩
        have HAL := Lib.hid HW.out.2
        clear k3 b3 hw3 hnb HW zc zl
        go_wp2_with fail
        refine (index_any namesE (some ⟨nb, 0, none⟩) 17 wd w3 H3.out.2 (by decide)).mono ?_
        rintro e w4 ⟨rfl, rfl⟩
        by_cases hi0 : i = 0
        · subst hi0
          by_cases hm : wd ∈ namesE
          · have i0d : ((0 : Int) == 0) = true := by simp
            have hix : Hid (idxS wd namesE = (namesE.idxOf wd : Nat)) := Lib.hid (by rw [idxS, if_pos hm])
            have hxl : namesE.idxOf wd < 17 := List.idxOf_lt_length_of_mem hm
            obtain ⟨kx, hkx⟩ : ∃ k, k = namesE.idxOf wd := ⟨_, rfl⟩
            rw [hix.out]
            rw [← hkx] at hxl ⊢
            have HKX : Hid (numW true wd = some kx) := Lib.hid (by rw [hkx]; exact numW_name hm)
            have HNS : Hid (ns = []) := Lib.hid (List.eq_nil_of_length_eq_zero (by omega))
            clear hm hkx hix
            have zc := H3.out.1.2.2.1.cell
            have z0 := zc 0
            clear zc
            simp only [arrc, List.getElem?_toArray, List.getElem?_cons_zero, List.getElem?_cons_succ] at z0
            have zl := H3.out.1.2.2.1.lt
            have zf0 := H3.out.1.2.2.1.frozen 0
            have HNX : Hid ((Blk (w3.setCell ⟨ab, 0, none⟩ (.int .i64 kx)) rb 23 (evc evZ).toArray ∧ Blk (w3.setCell ⟨ab, 0, none⟩ (.int .i64 kx)) sb 9 (ws.map Str).toArray ∧ Blk (w3.setCell ⟨ab, 0, none⟩ (.int .i64 kx)) ab 45 (arrc [kx]).toArray ∧ Step [] [] w (w3.setCell ⟨ab, 0, none⟩ (.int .i64 kx))) ∧ (∀ (j : Nat) (u : List UInt8) (n : Nat), ws[j]? = some u → [kx][j]? = some n → numW (true && decide (j = 0)) u = some n)) := Lib.hid ⟨⟨H3.out.1.1.far (p := ⟨ab, 0, none⟩) HNE.out.1 _, H3.out.1.2.1.far (p := ⟨ab, 0, none⟩) HNE.out.2.1 _, by have hq := H3.out.1.2.2.1.set 0 (.int .i64 kx); rw [HNS.out] at hq; simpa [arrc] using hq, H3.out.1.2.2.2.setCell (.inr HNE.out.2.2) _⟩, fun j u n hu hn => by
              match j, hn with
              | 0, hn => rw [HWD.out] at hu; cases hu; simp at hn; rw [← hn]; simpa using HKX.out
              | j + 1, hn => simp at hn⟩
            clear H3 HAL
            go_wp2_with fail
            go_roundw
            case rel => exact ⟨0 + 1, [kx], by omega, by simp, by go_num, HNX⟩
            case measure => simp [intOf]; omega
          · have i0d : ((0 : Int) == 0) = true := by simp
            have hix : Hid (idxS wd namesE = -1) := Lib.hid (by rw [idxS, if_neg hm])
            rw [hix.out]
            have hnt : ¬ ((true && decide (0 = 0)) = true ∧ wd ∈ namesE) := fun h => hm h.2
            clear hm hix
            have HNW : Hid (numW (true && decide (0 = 0)) wd = digs 0 wd) := Lib.hid (numW_digs hnt)
            clear hnt
            go_upto_block 2 with fail
            obtain ⟨tb, htb⟩ : ∃ b, b = w3.heap.size := ⟨_, rfl⟩
            obtain ⟨V5, hV5⟩ : ∃ V, V = w3.iter ⟨wd.toArray⟩ 0 := ⟨_, rfl⟩
            have k5 : Step [] [] w3 V5 := by rw [hV5]; exact (Step.refl [] w3).alloc _
            have H5 : Hid ((Blk V5 rb 23 (evc evZ).toArray ∧ Blk V5 sb 9 (ws.map Str).toArray ∧ Blk V5 ab 45 (arrc (ns ++ [0])).toArray ∧ Step [] [] w V5) ∧ V5.heap[tb]? = some (.stringIter ⟨wd.toArray⟩ 0)) := Lib.hid ⟨⟨H3.out.1.1.step k5 (by simp), H3.out.1.2.1.step k5 (by simp), by rw [arrc_zero]; exact H3.out.1.2.2.1.step k5 (by simp), H3.out.1.2.2.2.trans k5⟩, by rw [hV5, htb]; exact World.iter_heap w3 _ 0⟩
            have HTB : Hid (rb ≠ tb ∧ sb ≠ tb ∧ ab ≠ tb ∧ w.heap.size ≤ tb) := Lib.hid ⟨by have := H3.out.1.1.lt; omega, by have := H3.out.1.2.1.lt; omega, by have := H3.out.1.2.2.1.lt; omega, by have := H3.out.1.2.2.2.size; omega⟩
            rw [← hV5]
            try rw [← htb]
            clear hV5 htb k5 H3
            go_wp2_with fail
            go_loopw [41] (fun v W => ∃ (p acc : Nat), p ≤ wd.length ∧ acc ≤ 2559 ∧ Hid ((Blk W rb 23 (evc evZ).toArray ∧ Blk W sb 9 (ws.map Str).toArray ∧ Blk W ab 45 (arrc (ns ++ [acc])).toArray ∧ Step [] [] w W) ∧ W.heap[tb]? = some (.stringIter ⟨wd.toArray⟩ p) ∧ digs acc (wd.drop p) = digs 0 wd)) (fun _ W => wd.length - W.iterPos tb)
            case atStart => exact ⟨0, 0, by omega, by omega, Lib.hid ⟨H5.out.1, H5.out.2, rfl⟩⟩
            case round =>
              clear H5
              rename World => X
              obtain ⟨p, acc, hp, hac, HX⟩ := hrel
              have hsz : (⟨wd.toArray⟩ : ByteArray).size = wd.length := by simp [ByteArray.size]
              by_cases hpl : p < wd.length
              · obtain ⟨c, hc⟩ : ∃ c, wd[p]? = some c := ⟨_, List.getElem?_eq_getElem hpl⟩
                have HC := Lib.hid hc
                have hnx := fun ty => run_next_yes (P := Tryd.prog) X tb ⟨wd.toArray⟩ p ty HX.out.2.1 (by rw [hsz]; exact hpl)
                obtain ⟨⟨rn, wdt⟩, hrn⟩ : ∃ q, q = Utf8.decode ⟨wd.toArray⟩ p := ⟨_, rfl⟩
                rw [← hrn] at hnx
                simp only at hnx
                have HRN := Lib.hid hrn
                clear hc hrn
                obtain ⟨Y, hY⟩ : ∃ Y, Y = setIt X tb ⟨wd.toArray⟩ (p + wdt) := ⟨_, rfl⟩
                rw [← hY] at hnx
                have sY : Step [tb] [tb] X Y := by rw [hY]; exact setIt_step X tb _ _
                have HY : Hid ((Blk Y rb 23 (evc evZ).toArray ∧ Blk Y sb 9 (ws.map Str).toArray ∧ Blk Y ab 45 (arrc (ns ++ [acc])).toArray ∧ Step [] [] w Y) ∧ Y.heap[tb]? = some (.stringIter ⟨wd.toArray⟩ (p + wdt))) := Lib.hid ⟨⟨HX.out.1.1.step sY (by simpa using HTB.out.1), HX.out.1.2.1.step sY (by simpa using HTB.out.2.1), HX.out.1.2.2.1.step sY (by simpa using HTB.out.2.2.1), HX.out.1.2.2.2.ownS sY HTB.out.2.2.2⟩, by rw [hY]; exact setIt_at X tb _ _ (lt_of_blockS HX.out.2.1)⟩
                have HXD : Hid (X.heap[tb]? = some (.stringIter ⟨wd.toArray⟩ p) ∧ digs acc (wd.drop p) = digs 0 wd) := Lib.hid HX.out.2
                clear hY sY HX
                have HDS := Lib.hid (digs_step (acc := acc) HC.out)
                go_upto_region 13 with fail
                clear hnx
                by_cases hlo : c.toNat < 128
                · obtain ⟨e1, e2⟩ : rn = c.toNat ∧ wdt = 1 := by have h := HRN.out; rw [rune_low wd p c HC.out hlo] at h; exact Prod.mk.inj h
                  subst e1 e2
                  obtain ⟨cn, hcn⟩ : ∃ n, n = c.toNat := ⟨_, rfl⟩
                  rw [← hcn] at HDS hlo ⊢
                  clear HRN hcn
                  have zc : Y.cell? ⟨ab, 0, none⟩ = some (.int .i64 (acc : Int)) := by
                    have e9 : (ns ++ [acc])[0]? = some acc := by rw [List.getElem?_append_right (by omega), hns, Nat.sub_self]; rfl
                    rw [HY.out.1.2.2.1.cell, List.getElem?_toArray, arrc_at _ 0 (by omega), e9]
                    rfl
                  have zf := HY.out.1.2.2.1.frozen 0
                  have zl := HY.out.1.2.2.1.lt
                  by_cases t0 : cn < 48
                  · have t0d : decide ((cn : Int) < 48) = true := decide_eq_true (by omega)
                    have t0e : decide (cn < 48) = true := decide_eq_true t0
                    have HV : Hid (parseC s = (evZ, false)) := Lib.hid (parse_bad (by rw [← HWS.out]; exact nums_none true ws 0 wd HWD.out ((show numW (true && decide (0 = 0)) wd = digs 0 wd from by first | exact HNW.out | simpa using HNW.out).trans (by rw [← HXD.out.2, HDS.out, if_pos (by omega)]))))
                    clear t0 hlo
                    go_wp2_with (refine wpList_storeRow (T := 23) (b := rb) (T' := 23) (cs := (evc evZ).toArray) (vs := (evc evZ).toArray) rfl (.tmp 2) (.tmp 55) rfl rfl rfl Tryd.sEv HY.out.1.1 rfl (evc_one _) ?_; intro U ub uk)
                    exact bodyPost_ret (res_row2 (T := 23) (cs := (evc evZ).toArray) (p := 2) (u := 3) rfl _ rfl Tryd.sEv ub) rfl ⟨by rw [HV.out] <;> rfl, HY.out.1.2.2.2.ownS uk HRB.out⟩
                  · have t0d : decide ((cn : Int) < 48) = false := decide_eq_false (by omega)
                    have t0e : decide (cn < 48) = false := decide_eq_false t0
                    by_cases t1 : 57 < cn
                    · have t1d : decide ((57 : Int) < (cn : Int)) = true := decide_eq_true (by omega)
                      have t1e : decide (57 < cn) = true := decide_eq_true t1
                      have HV : Hid (parseC s = (evZ, false)) := Lib.hid (parse_bad (by rw [← HWS.out]; exact nums_none true ws 0 wd HWD.out ((show numW (true && decide (0 = 0)) wd = digs 0 wd from by first | exact HNW.out | simpa using HNW.out).trans (by rw [← HXD.out.2, HDS.out, if_pos (by omega)]))))
                      clear t0 t1 hlo
                      go_wp2_with (refine wpList_storeRow (T := 23) (b := rb) (T' := 23) (cs := (evc evZ).toArray) (vs := (evc evZ).toArray) rfl (.tmp 2) (.tmp 55) rfl rfl rfl Tryd.sEv HY.out.1.1 rfl (evc_one _) ?_; intro U ub uk)
                      exact bodyPost_ret (res_row2 (T := 23) (cs := (evc evZ).toArray) (p := 2) (u := 3) rfl _ rfl Tryd.sEv ub) rfl ⟨by rw [HV.out] <;> rfl, HY.out.1.2.2.2.ownS uk HRB.out⟩
                    · have t1d : decide ((57 : Int) < (cn : Int)) = false := decide_eq_false (by omega)
                      have t1e : decide (57 < cn) = false := decide_eq_false t1
                      by_cases t2 : 255 < acc
                      · have t2d : decide ((255 : Int) < (acc : Int)) = true := decide_eq_true (by omega)
                        have t2e : decide (255 < acc) = true := decide_eq_true t2
                        have HV : Hid (parseC s = (evZ, false)) := Lib.hid (parse_bad (by rw [← HWS.out]; exact nums_none true ws 0 wd HWD.out ((show numW (true && decide (0 = 0)) wd = digs 0 wd from by first | exact HNW.out | simpa using HNW.out).trans (by rw [← HXD.out.2, HDS.out, if_pos (by omega)]))))
                        clear t0 t1 t2 hlo
                        go_wp2_with (refine wpList_storeRow (T := 23) (b := rb) (T' := 23) (cs := (evc evZ).toArray) (vs := (evc evZ).toArray) rfl (.tmp 2) (.tmp 55) rfl rfl rfl Tryd.sEv HY.out.1.1 rfl (evc_one _) ?_; intro U ub uk)
                        exact bodyPost_ret (res_row2 (T := 23) (cs := (evc evZ).toArray) (p := 2) (u := 3) rfl _ rfl Tryd.sEv ub) rfl ⟨by rw [HV.out] <;> rfl, HY.out.1.2.2.2.ownS uk HRB.out⟩
                      · have t2d : decide ((255 : Int) < (acc : Int)) = false := decide_eq_false (by omega)
                        have t2e : decide (255 < acc) = false := decide_eq_false t2
                        have HDN : Hid (digs (acc * 10 + (cn - 48)) (wd.drop (p + 1)) = digs 0 wd) := Lib.hid (by rw [← HXD.out.2, HDS.out, if_neg (by omega)])
                        have hw1 : IntKind.i32.wrap ((cn : Int) - 48) = (cn : Int) - 48 := IntWalk.i32_in _ (by omega)
                        have hw2 : IntKind.i64.wrap ((cn : Int) - 48) = (cn : Int) - 48 := IntWalk.i64_in _ (by omega)
                        obtain ⟨Z, hZ⟩ : ∃ Z, Z = (Y.setCell ⟨ab, 0, none⟩ (.int .i64 ((acc * 10 + (cn - 48) : Nat) : Int))) := ⟨_, rfl⟩
                        have HZV : Hid (((acc * 10 + (cn - 48) : Nat) : Int) = (acc : Int) * 10 + ((cn : Int) - 48)) := Lib.hid (by omega)
                        have HZ : Hid ((Blk Z rb 23 (evc evZ).toArray ∧ Blk Z sb 9 (ws.map Str).toArray ∧ Blk Z ab 45 (arrc (ns ++ [acc * 10 + (cn - 48)])).toArray ∧ Step [] [] w Z) ∧ Z.heap[tb]? = some (.stringIter ⟨wd.toArray⟩ (p + 1)) ∧ digs (acc * 10 + (cn - 48)) (wd.drop (p + 1)) = digs 0 wd) := Lib.hid (by
                          rw [hZ]
                          refine ⟨⟨HY.out.1.1.far (p := ⟨ab, 0, none⟩) HNE.out.1 _, HY.out.1.2.1.far (p := ⟨ab, 0, none⟩) HNE.out.2.1 _, ?_, HY.out.1.2.2.2.setCell (.inr HNE.out.2.2) _⟩, ?_, HDN.out⟩
                          · have hq := HY.out.1.2.2.1.set 0 (.int .i64 ((acc * 10 + (cn - 48) : Nat) : Int))
                            have e9 : (arrc (ns ++ [acc])).toArray.setIfInBounds 0 (.int .i64 ((acc * 10 + (cn - 48) : Nat) : Int)) = (arrc (ns ++ [acc * 10 + (cn - 48)])).toArray := by
                              rw [List.setIfInBounds_toArray]
                              have e8 := arrc_last ns acc (acc * 10 + (cn - 48)) (by omega)
                              rw [hns] at e8
                              rw [e8]
                            rw [e9] at hq
                            exact hq
                          · rw [setCell_it _ _ _ _ HTB.out.2.2.1]
                            exact HY.out.2)
                        rw [HZV.out] at hZ
                        have HPX := Lib.hid (iterPos_it HXD.out.1)
                        have HPZ := Lib.hid (iterPos_it HZ.out.2.1)
                        clear HY HXD HDS HDN HZV
                        go_wp2_with fail
                        rw [← hZ]
                        clear hZ
                        go_roundw
                        case rel => exact ⟨p + 1, acc * 10 + (cn - 48), by omega, by omega, HZ⟩
                        case measure => rw [HPX.out, HPZ.out]; omega
                · have hrh : 128 ≤ rn := by have h := rune_high wd p c HC.out hlo; rw [← HRN.out] at h; exact h
                  have t0d : decide ((rn : Int) < 48) = false := decide_eq_false (by omega)
                  have t0e : decide (rn < 48) = false := decide_eq_false (by omega)
                  have t1d : decide ((57 : Int) < (rn : Int)) = true := decide_eq_true (by omega)
                  have t1e : decide (57 < rn) = true := decide_eq_true (by omega)
                  have HV : Hid (parseC s = (evZ, false)) := Lib.hid (parse_bad (by rw [← HWS.out]; exact nums_none true ws 0 wd HWD.out ((show numW (true && decide (0 = 0)) wd = digs 0 wd from by first | exact HNW.out | simpa using HNW.out).trans (by rw [← HXD.out.2, HDS.out, if_pos (by omega)]))))
                  clear hlo hrh
                  go_wp2_with (refine wpList_storeRow (T := 23) (b := rb) (T' := 23) (cs := (evc evZ).toArray) (vs := (evc evZ).toArray) rfl (.tmp 2) (.tmp 55) rfl rfl rfl Tryd.sEv HY.out.1.1 rfl (evc_one _) ?_; intro U ub uk)
                  exact bodyPost_ret (res_row2 (T := 23) (cs := (evc evZ).toArray) (p := 2) (u := 3) rfl _ rfl Tryd.sEv ub) rfl ⟨by rw [HV.out] <;> rfl, HY.out.1.2.2.2.ownS uk HRB.out⟩
              · obtain rfl : p = wd.length := by omega
                have hnx := fun ty => run_next_no (P := Tryd.prog) X tb ⟨wd.toArray⟩ wd.length ty HX.out.2.1 (by rw [hsz]; omega)
                have HED : Hid (digs 0 wd = some acc) := Lib.hid (by rw [← HX.out.2.2, List.drop_length]; rfl)
                have HNX : Hid ((Blk X rb 23 (evc evZ).toArray ∧ Blk X sb 9 (ws.map Str).toArray ∧ Blk X ab 45 (arrc (ns ++ [acc])).toArray ∧ Step [] [] w X) ∧ (∀ (j : Nat) (u : List UInt8) (m : Nat), ws[j]? = some u → (ns ++ [acc])[j]? = some m → numW (true && decide (j = 0)) u = some m)) := Lib.hid ⟨HX.out.1, fun j u m hu hm => by
                  rcases Nat.lt_trichotomy j 0 with h | h | h
                  · rw [List.getElem?_append_left (by omega)] at hm; exact HAL.out j u m hu hm
                  · rw [h] at hu hm ⊢; rw [HWD.out] at hu; cases hu; rw [List.getElem?_append_right (by omega), hns, Nat.sub_self] at hm; cases hm; exact (show numW (true && decide (0 = 0)) wd = digs 0 wd from by first | exact HNW.out | simpa using HNW.out).trans HED.out
                  · rw [List.getElem?_eq_none (by simp; omega)] at hm; cases hm⟩
                clear HX HAL
                go_wp2_with fail
                go_roundw
                case rel => exact ⟨0 + 1, ns ++ [acc], by omega, by rw [List.length_append, hns, List.length_singleton], by go_num, HNX⟩
                case measure => simp [intOf]; omega
        · have i0d : ((i : Int) == 0) = false := by simp; omega
          obtain ⟨ix, hix⟩ : ∃ x, x = idxS wd namesE := ⟨_, rfl⟩
          rw [← hix]
          clear hix
          have hnt : ¬ ((true && decide (i = 0)) = true ∧ wd ∈ namesE) := fun h => by simp [hi0] at h
          clear hi0
          have HNW : Hid (numW (true && decide (i = 0)) wd = digs 0 wd) := Lib.hid (numW_digs hnt)
          clear hnt
          go_upto_block 2 with fail
          obtain ⟨tb, htb⟩ : ∃ b, b = w3.heap.size := ⟨_, rfl⟩
          obtain ⟨V5, hV5⟩ : ∃ V, V = w3.iter ⟨wd.toArray⟩ 0 := ⟨_, rfl⟩
          have k5 : Step [] [] w3 V5 := by rw [hV5]; exact (Step.refl [] w3).alloc _
          have H5 : Hid ((Blk V5 rb 23 (evc evZ).toArray ∧ Blk V5 sb 9 (ws.map Str).toArray ∧ Blk V5 ab 45 (arrc (ns ++ [0])).toArray ∧ Step [] [] w V5) ∧ V5.heap[tb]? = some (.stringIter ⟨wd.toArray⟩ 0)) := Lib.hid ⟨⟨H3.out.1.1.step k5 (by simp), H3.out.1.2.1.step k5 (by simp), by rw [arrc_zero]; exact H3.out.1.2.2.1.step k5 (by simp), H3.out.1.2.2.2.trans k5⟩, by rw [hV5, htb]; exact World.iter_heap w3 _ 0⟩
          have HTB : Hid (rb ≠ tb ∧ sb ≠ tb ∧ ab ≠ tb ∧ w.heap.size ≤ tb) := Lib.hid ⟨by have := H3.out.1.1.lt; omega, by have := H3.out.1.2.1.lt; omega, by have := H3.out.1.2.2.1.lt; omega, by have := H3.out.1.2.2.2.size; omega⟩
          rw [← hV5]
          try rw [← htb]
          clear hV5 htb k5 H3
          go_wp2_with fail
          go_loopw [41] (fun v W => ∃ (p acc : Nat), p ≤ wd.length ∧ acc ≤ 2559 ∧ Hid ((Blk W rb 23 (evc evZ).toArray ∧ Blk W sb 9 (ws.map Str).toArray ∧ Blk W ab 45 (arrc (ns ++ [acc])).toArray ∧ Step [] [] w W) ∧ W.heap[tb]? = some (.stringIter ⟨wd.toArray⟩ p) ∧ digs acc (wd.drop p) = digs 0 wd)) (fun _ W => wd.length - W.iterPos tb)
          case atStart => exact ⟨0, 0, by omega, by omega, Lib.hid ⟨H5.out.1, H5.out.2, rfl⟩⟩
          case round =>
            clear H5
            rename World => X
            obtain ⟨p, acc, hp, hac, HX⟩ := hrel
            have hsz : (⟨wd.toArray⟩ : ByteArray).size = wd.length := by simp [ByteArray.size]
            by_cases hpl : p < wd.length
            · obtain ⟨c, hc⟩ : ∃ c, wd[p]? = some c := ⟨_, List.getElem?_eq_getElem hpl⟩
              have HC := Lib.hid hc
              have hnx := fun ty => run_next_yes (P := Tryd.prog) X tb ⟨wd.toArray⟩ p ty HX.out.2.1 (by rw [hsz]; exact hpl)
              obtain ⟨⟨rn, wdt⟩, hrn⟩ : ∃ q, q = Utf8.decode ⟨wd.toArray⟩ p := ⟨_, rfl⟩
              rw [← hrn] at hnx
              simp only at hnx
              have HRN := Lib.hid hrn
              clear hc hrn
              obtain ⟨Y, hY⟩ : ∃ Y, Y = setIt X tb ⟨wd.toArray⟩ (p + wdt) := ⟨_, rfl⟩
              rw [← hY] at hnx
              have sY : Step [tb] [tb] X Y := by rw [hY]; exact setIt_step X tb _ _
              have HY : Hid ((Blk Y rb 23 (evc evZ).toArray ∧ Blk Y sb 9 (ws.map Str).toArray ∧ Blk Y ab 45 (arrc (ns ++ [acc])).toArray ∧ Step [] [] w Y) ∧ Y.heap[tb]? = some (.stringIter ⟨wd.toArray⟩ (p + wdt))) := Lib.hid ⟨⟨HX.out.1.1.step sY (by simpa using HTB.out.1), HX.out.1.2.1.step sY (by simpa using HTB.out.2.1), HX.out.1.2.2.1.step sY (by simpa using HTB.out.2.2.1), HX.out.1.2.2.2.ownS sY HTB.out.2.2.2⟩, by rw [hY]; exact setIt_at X tb _ _ (lt_of_blockS HX.out.2.1)⟩
              have HXD : Hid (X.heap[tb]? = some (.stringIter ⟨wd.toArray⟩ p) ∧ digs acc (wd.drop p) = digs 0 wd) := Lib.hid HX.out.2
              clear hY sY HX
              have HDS := Lib.hid (digs_step (acc := acc) HC.out)
              go_upto_region 13 with fail
              clear hnx
              by_cases hlo : c.toNat < 128
              · obtain ⟨e1, e2⟩ : rn = c.toNat ∧ wdt = 1 := by have h := HRN.out; rw [rune_low wd p c HC.out hlo] at h; exact Prod.mk.inj h
                subst e1 e2
                obtain ⟨cn, hcn⟩ : ∃ n, n = c.toNat := ⟨_, rfl⟩
                rw [← hcn] at HDS hlo ⊢
                clear HRN hcn
                have zc : Y.cell? ⟨ab, i, none⟩ = some (.int .i64 (acc : Int)) := by
                  have e9 : (ns ++ [acc])[i]? = some acc := by rw [List.getElem?_append_right (by omega), hns, Nat.sub_self]; rfl
                  rw [HY.out.1.2.2.1.cell, List.getElem?_toArray, arrc_at _ i (by omega), e9]
                  rfl
                have zf := HY.out.1.2.2.1.frozen i
                have zl := HY.out.1.2.2.1.lt
                by_cases t0 : cn < 48
                · have t0d : decide ((cn : Int) < 48) = true := decide_eq_true (by omega)
                  have t0e : decide (cn < 48) = true := decide_eq_true t0
                  have HV : Hid (parseC s = (evZ, false)) := Lib.hid (parse_bad (by rw [← HWS.out]; exact nums_none true ws i wd HWD.out ((show numW (true && decide (i = 0)) wd = digs 0 wd from by first | exact HNW.out | simpa using HNW.out).trans (by rw [← HXD.out.2, HDS.out, if_pos (by omega)]))))
                  clear t0 hlo
                  go_wp2_with (refine wpList_storeRow (T := 23) (b := rb) (T' := 23) (cs := (evc evZ).toArray) (vs := (evc evZ).toArray) rfl (.tmp 2) (.tmp 55) rfl rfl rfl Tryd.sEv HY.out.1.1 rfl (evc_one _) ?_; intro U ub uk)
                  exact bodyPost_ret (res_row2 (T := 23) (cs := (evc evZ).toArray) (p := 2) (u := 3) rfl _ rfl Tryd.sEv ub) rfl ⟨by rw [HV.out] <;> rfl, HY.out.1.2.2.2.ownS uk HRB.out⟩
                · have t0d : decide ((cn : Int) < 48) = false := decide_eq_false (by omega)
                  have t0e : decide (cn < 48) = false := decide_eq_false t0
                  by_cases t1 : 57 < cn
                  · have t1d : decide ((57 : Int) < (cn : Int)) = true := decide_eq_true (by omega)
                    have t1e : decide (57 < cn) = true := decide_eq_true t1
                    have HV : Hid (parseC s = (evZ, false)) := Lib.hid (parse_bad (by rw [← HWS.out]; exact nums_none true ws i wd HWD.out ((show numW (true && decide (i = 0)) wd = digs 0 wd from by first | exact HNW.out | simpa using HNW.out).trans (by rw [← HXD.out.2, HDS.out, if_pos (by omega)]))))
                    clear t0 t1 hlo
                    go_wp2_with (refine wpList_storeRow (T := 23) (b := rb) (T' := 23) (cs := (evc evZ).toArray) (vs := (evc evZ).toArray) rfl (.tmp 2) (.tmp 55) rfl rfl rfl Tryd.sEv HY.out.1.1 rfl (evc_one _) ?_; intro U ub uk)
                    exact bodyPost_ret (res_row2 (T := 23) (cs := (evc evZ).toArray) (p := 2) (u := 3) rfl _ rfl Tryd.sEv ub) rfl ⟨by rw [HV.out] <;> rfl, HY.out.1.2.2.2.ownS uk HRB.out⟩
                  · have t1d : decide ((57 : Int) < (cn : Int)) = false := decide_eq_false (by omega)
                    have t1e : decide (57 < cn) = false := decide_eq_false t1
                    by_cases t2 : 255 < acc
                    · have t2d : decide ((255 : Int) < (acc : Int)) = true := decide_eq_true (by omega)
                      have t2e : decide (255 < acc) = true := decide_eq_true t2
                      have HV : Hid (parseC s = (evZ, false)) := Lib.hid (parse_bad (by rw [← HWS.out]; exact nums_none true ws i wd HWD.out ((show numW (true && decide (i = 0)) wd = digs 0 wd from by first | exact HNW.out | simpa using HNW.out).trans (by rw [← HXD.out.2, HDS.out, if_pos (by omega)]))))
                      clear t0 t1 t2 hlo
                      go_wp2_with (refine wpList_storeRow (T := 23) (b := rb) (T' := 23) (cs := (evc evZ).toArray) (vs := (evc evZ).toArray) rfl (.tmp 2) (.tmp 55) rfl rfl rfl Tryd.sEv HY.out.1.1 rfl (evc_one _) ?_; intro U ub uk)
                      exact bodyPost_ret (res_row2 (T := 23) (cs := (evc evZ).toArray) (p := 2) (u := 3) rfl _ rfl Tryd.sEv ub) rfl ⟨by rw [HV.out] <;> rfl, HY.out.1.2.2.2.ownS uk HRB.out⟩
                    · have t2d : decide ((255 : Int) < (acc : Int)) = false := decide_eq_false (by omega)
                      have t2e : decide (255 < acc) = false := decide_eq_false t2
                      have HDN : Hid (digs (acc * 10 + (cn - 48)) (wd.drop (p + 1)) = digs 0 wd) := Lib.hid (by rw [← HXD.out.2, HDS.out, if_neg (by omega)])
                      have hw1 : IntKind.i32.wrap ((cn : Int) - 48) = (cn : Int) - 48 := IntWalk.i32_in _ (by omega)
                      have hw2 : IntKind.i64.wrap ((cn : Int) - 48) = (cn : Int) - 48 := IntWalk.i64_in _ (by omega)
                      obtain ⟨Z, hZ⟩ : ∃ Z, Z = (Y.setCell ⟨ab, i, none⟩ (.int .i64 ((acc * 10 + (cn - 48) : Nat) : Int))) := ⟨_, rfl⟩
                      have HZV : Hid (((acc * 10 + (cn - 48) : Nat) : Int) = (acc : Int) * 10 + ((cn : Int) - 48)) := Lib.hid (by omega)
                      have HZ : Hid ((Blk Z rb 23 (evc evZ).toArray ∧ Blk Z sb 9 (ws.map Str).toArray ∧ Blk Z ab 45 (arrc (ns ++ [acc * 10 + (cn - 48)])).toArray ∧ Step [] [] w Z) ∧ Z.heap[tb]? = some (.stringIter ⟨wd.toArray⟩ (p + 1)) ∧ digs (acc * 10 + (cn - 48)) (wd.drop (p + 1)) = digs 0 wd) := Lib.hid (by
                        rw [hZ]
                        refine ⟨⟨HY.out.1.1.far (p := ⟨ab, i, none⟩) HNE.out.1 _, HY.out.1.2.1.far (p := ⟨ab, i, none⟩) HNE.out.2.1 _, ?_, HY.out.1.2.2.2.setCell (.inr HNE.out.2.2) _⟩, ?_, HDN.out⟩
                        · have hq := HY.out.1.2.2.1.set i (.int .i64 ((acc * 10 + (cn - 48) : Nat) : Int))
                          have e9 : (arrc (ns ++ [acc])).toArray.setIfInBounds i (.int .i64 ((acc * 10 + (cn - 48) : Nat) : Int)) = (arrc (ns ++ [acc * 10 + (cn - 48)])).toArray := by
                            rw [List.setIfInBounds_toArray]
                            have e8 := arrc_last ns acc (acc * 10 + (cn - 48)) (by omega)
                            rw [hns] at e8
                            rw [e8]
                          rw [e9] at hq
                          exact hq
                        · rw [setCell_it _ _ _ _ HTB.out.2.2.1]
                          exact HY.out.2)
                      rw [HZV.out] at hZ
                      have HPX := Lib.hid (iterPos_it HXD.out.1)
                      have HPZ := Lib.hid (iterPos_it HZ.out.2.1)
                      clear HY HXD HDS HDN HZV
                      go_wp2_with fail
                      rw [← hZ]
                      clear hZ
                      go_roundw
                      case rel => exact ⟨p + 1, acc * 10 + (cn - 48), by omega, by omega, HZ⟩
                      case measure => rw [HPX.out, HPZ.out]; omega
              · have hrh : 128 ≤ rn := by have h := rune_high wd p c HC.out hlo; rw [← HRN.out] at h; exact h
                have t0d : decide ((rn : Int) < 48) = false := decide_eq_false (by omega)
                have t0e : decide (rn < 48) = false := decide_eq_false (by omega)
                have t1d : decide ((57 : Int) < (rn : Int)) = true := decide_eq_true (by omega)
                have t1e : decide (57 < rn) = true := decide_eq_true (by omega)
                have HV : Hid (parseC s = (evZ, false)) := Lib.hid (parse_bad (by rw [← HWS.out]; exact nums_none true ws i wd HWD.out ((show numW (true && decide (i = 0)) wd = digs 0 wd from by first | exact HNW.out | simpa using HNW.out).trans (by rw [← HXD.out.2, HDS.out, if_pos (by omega)]))))
                clear hlo hrh
                go_wp2_with (refine wpList_storeRow (T := 23) (b := rb) (T' := 23) (cs := (evc evZ).toArray) (vs := (evc evZ).toArray) rfl (.tmp 2) (.tmp 55) rfl rfl rfl Tryd.sEv HY.out.1.1 rfl (evc_one _) ?_; intro U ub uk)
                exact bodyPost_ret (res_row2 (T := 23) (cs := (evc evZ).toArray) (p := 2) (u := 3) rfl _ rfl Tryd.sEv ub) rfl ⟨by rw [HV.out] <;> rfl, HY.out.1.2.2.2.ownS uk HRB.out⟩
            · obtain rfl : p = wd.length := by omega
              have hnx := fun ty => run_next_no (P := Tryd.prog) X tb ⟨wd.toArray⟩ wd.length ty HX.out.2.1 (by rw [hsz]; omega)
              have HED : Hid (digs 0 wd = some acc) := Lib.hid (by rw [← HX.out.2.2, List.drop_length]; rfl)
              have HNX : Hid ((Blk X rb 23 (evc evZ).toArray ∧ Blk X sb 9 (ws.map Str).toArray ∧ Blk X ab 45 (arrc (ns ++ [acc])).toArray ∧ Step [] [] w X) ∧ (∀ (j : Nat) (u : List UInt8) (m : Nat), ws[j]? = some u → (ns ++ [acc])[j]? = some m → numW (true && decide (j = 0)) u = some m)) := Lib.hid ⟨HX.out.1, fun j u m hu hm => by
                rcases Nat.lt_trichotomy j i with h | h | h
                · rw [List.getElem?_append_left (by omega)] at hm; exact HAL.out j u m hu hm
                · rw [h] at hu hm ⊢; rw [HWD.out] at hu; cases hu; rw [List.getElem?_append_right (by omega), hns, Nat.sub_self] at hm; cases hm; exact (show numW (true && decide (i = 0)) wd = digs 0 wd from by first | exact HNW.out | simpa using HNW.out).trans HED.out
                · rw [List.getElem?_eq_none (by simp; omega)] at hm; cases hm⟩
              clear HX HAL
              go_wp2_with fail
              go_roundw
              case rel => exact ⟨i + 1, ns ++ [acc], by omega, by rw [List.length_append, hns, List.length_singleton], by go_num, HNX⟩
              case measure => simp [intOf]; omega
      · obtain rfl : i = ws.length := by omega
        have hnl : ¬ (ws.length : Int) < ws.length := by omega
        have HPF := Lib.hid (parse_fit (s := s) (ns := ns) (by rw [← HWS.out]; omega) (by rw [← HWS.out]; exact nums_all true ws ns hns HW.out.2))
        have H6 := Lib.hid HW.out.1
        clear HW hns
        have zc := H6.out.2.2.1.cell
        have z0 := zc 0
        have z1 := zc 1
        have z2 := zc 2
        have z3 := zc 3
        have z4 := zc 4
        clear zc
        simp only [arrc, List.getElem?_toArray, List.getElem?_cons_zero, List.getElem?_cons_succ] at z0 z1 z2 z3 z4
        have zl := H6.out.2.2.1.lt
        go_upto_region 19 with fail
        clear z0 z1 z2 z3 z4 zl
        obtain ⟨ob, hob⟩ : ∃ b, b = W.heap.size := ⟨_, rfl⟩
        obtain ⟨x, hx⟩ : ∃ x, x = evOf ns := ⟨_, rfl⟩
        obtain ⟨V7, hV7⟩ : ∃ V, V = W.alloc (.cells (evc (evOf ns)).toArray 23) := ⟨_, rfl⟩
        have k7 : Step [] [] W V7 := by rw [hV7]; exact (Step.refl [] W).alloc _
        have H7 : Hid (Blk V7 rb 23 (evc evZ).toArray ∧ Blk V7 ob 23 (evc x).toArray ∧ Step [] [] w V7) := Lib.hid ⟨H6.out.1.step k7 (by simp), by rw [hV7, hob, hx]; exact Blk.new W _ _, H6.out.2.2.2.trans k7⟩
        have HRN : Hid (rb ≠ ob) := Lib.hid (by have := H6.out.1.lt; omega)
        change Code.wp _ _ _ _ (W.alloc (.cells (evc (evOf ns)).toArray 23))
        rw [← hV7]
        try rw [← hob]
        rw [← hx] at HPF
        clear hV7 hob k7 H6 hx
        go_wp2_with (refine wpList_loadRow (T := 23) (b := ob) (T' := 23) (cs := (evc x).toArray) rfl (.tmp 11) rfl rfl Tryd.sEv H7.out.2.1 ?_)
        refine (line_any x V7 (HTT.out.step H7.out.2.2)).mono ?_
        rintro e w8 ⟨rfl, k8⟩
        have H8 : Hid (Blk w8 rb 23 (evc evZ).toArray ∧ Blk w8 ob 23 (evc x).toArray ∧ Step [] [] w w8) := Lib.hid ⟨H7.out.1.step k8 (by simp), H7.out.2.1.step k8 (by simp), H7.out.2.2.trans k8⟩
        clear k8 H7
        by_cases hr : rightE x = true
        · rw [lineC_yes hr]
          by_cases hl : lineE x = s
          · have hlb : (lineE x != s) = false := by simp [hl]
            have hlc : (lineE x == s) = true := by simp [hl]
            have HV : Hid (parseC s = (x, true)) := Lib.hid (by rw [HPF.out, if_pos ⟨hr, hl⟩])
            clear hr hl
            go_wp2_with (first | (refine wpList_loadRow (T := 23) (b := ob) (T' := 23) (cs := (evc x).toArray) rfl (.tmp 11) rfl rfl Tryd.sEv H8.out.2.1 ?_) | (refine wpList_storeRow (T := 23) (b := rb) (T' := 23) (cs := (evc evZ).toArray) (vs := (evc x).toArray) rfl (.tmp 2) (.tmp 91) rfl rfl rfl Tryd.sEv H8.out.1 rfl (evc_one _) ?_; intro U ub uk))
            exact bodyPost_ret (res_row2 (T := 23) (cs := (evc x).toArray) (p := 2) (u := 3) rfl _ rfl Tryd.sEv ub) rfl ⟨by rw [HV.out] <;> rfl, H8.out.2.2.ownS uk HRB.out⟩
          · have hlb : (lineE x != s) = true := by simp [hl]
            have hlc : (lineE x == s) = false := by simpa using hl
            have HV : Hid (parseC s = (evZ, false)) := Lib.hid (by rw [HPF.out, if_neg (fun h => hl h.2)])
            clear hr
            go_wp2_with (refine wpList_storeRow (T := 23) (b := rb) (T' := 23) (cs := (evc evZ).toArray) (vs := (evc evZ).toArray) rfl (.tmp 2) (.tmp 90) rfl rfl rfl Tryd.sEv H8.out.1 rfl (evc_one _) ?_; intro U ub uk)
            exact bodyPost_ret (res_row2 (T := 23) (cs := (evc evZ).toArray) (p := 2) (u := 3) rfl _ rfl Tryd.sEv ub) rfl ⟨by rw [HV.out] <;> rfl, H8.out.2.2.ownS uk HRB.out⟩
        · rw [lineC_no hr]
          have HV : Hid (parseC s = (evZ, false)) := Lib.hid (by rw [HPF.out, if_neg (fun h => hr h.1)])
          clear hr
          go_wp2_with (refine wpList_storeRow (T := 23) (b := rb) (T' := 23) (cs := (evc evZ).toArray) (vs := (evc evZ).toArray) rfl (.tmp 2) (.tmp 90) rfl rfl rfl Tryd.sEv H8.out.1 rfl (evc_one _) ?_; intro U ub uk)
          exact bodyPost_ret (res_row2 (T := 23) (cs := (evc evZ).toArray) (p := 2) (u := 3) rfl _ rfl Tryd.sEv ub) rfl ⟨by rw [HV.out] <;> rfl, H8.out.2.2.ownS uk HRB.out⟩
end Go.Proofs.YtnklfcejdkpjfaaDoor
