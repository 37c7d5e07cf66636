/-
  Chapter 1's sum by division, in plain words: the number that is left is the register's. No program in sight.
-/
import Derived.Test.YtjdgdmlhipbaaaaGreatDoorZGA
import Derived.Test.YtjdgdmlhipbaaaaGreatDoorZCrcPlain
import Derived.Lib.AppendZerosOnto
import Derived.Deep.DeepCutAuto
import Derived.Deep.CutBlock
namespace Go.Proofs.YtjdgdmlhipbaaaaGreatDoor
set_option linter.unusedSimpArgs false
set_option linter.unusedVariables false

theorem dbl_bit (s : Wd) (j : Nat) (hj : j < 32) : (s + s).getLsbD j = (decide (0 < j) && s.getLsbD (j - 1)) := by
  have e : (s + s).toNat = 2 * s.toNat % 2 ^ 32 := by rw [BitVec.toNat_add]; congr 1; omega
  unfold BitVec.getLsbD
  rw [e, Nat.testBit_mod_two_pow, decide_eq_true hj, Bool.true_and]
  cases j with
  | zero => simp [Nat.testBit_zero]
  | succ j => simp [Nat.testBit_succ, Nat.mul_div_cancel_left]
theorem dbl1_bit (s : Wd) (j : Nat) (hj : j < 32) : (s + s + 1#32).getLsbD j = (decide (j = 0) || s.getLsbD (j - 1)) := by
  have e : (s + s + 1#32).toNat = (2 * s.toNat + 1) % 2 ^ 32 := by
    rw [BitVec.toNat_add, BitVec.toNat_add]
    simp
    omega
  unfold BitVec.getLsbD
  rw [e, Nat.testBit_mod_two_pow, decide_eq_true hj, Bool.true_and]
  cases j with
  | zero => simp [Nat.testBit_zero]
  | succ j =>
    rw [Nat.testBit_succ, show (2 * s.toNat + 1) / 2 = s.toNat by omega]
    simp
theorem sum_bits (l : List Bool) : ∀ (k : Nat) (s : Wd), k ≤ 32 → (∀ j, k + j < 32 → True) → ∀ j, j < 32 → (sumBits l k s).getLsbD j = if j < k then !(l.getD (l.length - 32 + j) false) else s.getLsbD (j - k) := by
  intro k
  induction k with
  | zero => intro s _ _ j hj; simp [sumBits]
  | succ k ih =>
    intro s hk _ j hj
    rw [sumBits, ih _ (by omega) (fun _ _ => trivial) j hj]
    by_cases h : j < k
    · rw [if_pos h, if_pos (by omega)]
    · rw [if_neg h]
      by_cases h2 : j = k
      · subst h2
        rw [if_pos (show j < j + 1 by omega), Nat.sub_self]
        cases hb : l.getD (l.length - 32 + j) false with
        | true => simp only [if_true]; rw [dbl_bit _ _ (by omega)]; rfl
        | false => simp only [Bool.false_eq_true, if_false]; rw [dbl1_bit _ _ (by omega)]; rfl
      · rw [if_neg (show ¬ j < k + 1 by omega)]
        have h3 : j - k ≠ 0 := by omega
        cases hb : l.getD (l.length - 32 + k) false with
        | true => simp only [if_true]; rw [dbl_bit _ _ (by omega), decide_eq_true (by omega), Bool.true_and]; congr 1
        | false => simp only [Bool.false_eq_true, if_false]; rw [dbl1_bit _ _ (by omega), decide_eq_false h3, Bool.false_or]; congr 1
theorem sum_left (bs : List UInt8) : sumBits (divN (flip32 (messL bs) 32) (bs.length * 8)) 32 0#32 = crcL bs := by
  apply BitVec.eq_of_getLsbD_eq
  intro j hj
  rw [sum_bits _ 32 _ (Nat.le_refl _) (fun _ _ => trivial) j hj, if_pos hj]
  have hl : (divN (flip32 (messL bs) 32) (bs.length * 8)).length = bs.length * 8 + 32 := by rw [divN_len, flip32_len, mess_len]
  rw [hl, show bs.length * 8 + 32 - 32 + j = bs.length * 8 + j by omega, div_bits bs j hj, Bool.not_not]
theorem bits_succ (v : Wd) (k : Nat) : bitsW v (k + 1) = bitsW v k ++ [v.getLsbD k] := by
  have : ∀ (k : Nat) (v : Wd), bitsW v (k + 1) = bitsW v k ++ [v.getLsbD k] := by
    intro k
    induction k with
    | zero => intro v; simp [bitsW, crcLow]
    | succ k ih =>
      intro v
      rw [bitsW, ih, bitsW]
      simp [wshr, Nat.add_comm]
  exact this k v
end Go.Proofs.YtjdgdmlhipbaaaaGreatDoor
namespace Go.Proofs.YtjdgdmlhipbaaaaGreatDoor
open Go.RowKit
set_option linter.unusedSimpArgs false
set_option linter.unusedVariables false

set_option maxHeartbeats 1600000 in
theorem run_append_zeros_row {P : Program} {w : World} (t T ty e : TypeId) (i : TypeInfo) (z : Value) (sz bytes : Nat) (ht : P.underlying t = some (.slice e)) (hT : P.underlying T = some (.int .i64)) (hi : P.info? e = some i) (hz : i.zero = some z)
    (hsize : i.size = sz) (hby : i.bytes = bytes) (hzs : z.cells.size = sz) {a : Option Addr} {n cap : Nat} {xs : List Value} (hr : Row w sz a n cap xs)
    {m : Nat} (hm0 : 0 < m) (hs0 : 0 < sz) (hone : ∀ u ∈ (Builtin.zeroCells z.cells m).toList, u.oneCell' = true) (h63 : n + m ≤ maxLen) (hbytes : (n + m) * bytes ≤ 140737488355328) (hb0 : 0 < bytes) :
    ∃ a' cap' w', (Builtin.append_ #[t, T] ty #[.slice a n cap, .int .i64 m]).run P w = .ok (.slice a' (n + m) cap') w' ∧ Row w' sz a' (n + m) cap' (xs ++ (Builtin.zeroCells z.cells m).toList) ∧ Step (blks a) (blks a') w w' := by
  subst hsize
  subst hby
  obtain ⟨news, hnews⟩ : ∃ news, news = (Builtin.zeroCells z.cells m).toList := ⟨_, rfl⟩
  have hns : news.length = m * i.size := by rw [hnews, Array.length_toList, size_zeroCells, hzs]
  have hna : Builtin.zeroCells z.cells m = news.toArray := by rw [hnews]
  rw [← hnews] at hone ⊢
  have hlen : (xs ++ news).length = (n + m) * i.size := by rw [List.length_append, hr.len, hns, Nat.add_mul]
  have hw : IntKind.i64.wrap (m : Int) = m := by rw [IntKind.wrap_i64]; simp only [maxLen] at h63; omega
  have hneg : ¬ ((m : Int) < 0) := by omega
  have hk : m ≠ 0 := by omega
  have hnz : ¬ (m * i.size = 0) := Nat.mul_ne_zero hk (by omega)
  have h48i : ¬ (281474976710656 < (m : Int) * (i.bytes : Int)) := by
    rw [← Int.natCast_mul]
    have : m * i.bytes ≤ (n + m) * i.bytes := Nat.mul_le_mul_right _ (by omega)
    omega
  by_cases hroom : n + m ≤ cap
  · cases a with
    | none =>
      have hc := hr.nil rfl
      omega
    | some ad =>
      obtain ⟨b, o, s⟩ := ad
      obtain ⟨hsp, cs, h2, h3, h4⟩ := hr.at_ _ rfl
      simp at hsp h3 h4
      subst hsp
      have hfit : o + n * i.size + news.length ≤ cs.size := by
        have h5 : (n + m) * i.size ≤ cap * i.size := Nat.mul_le_mul_right _ hroom
        rw [Nat.add_mul] at h5
        rw [hns]
        omega
      have hst := run_storeCells_cellsRow (P := P) b (o + n * i.size) news 0 cs w h2 (by simpa using hfit) hone
      simp only [Nat.add_zero] at hst
      refine ⟨some ⟨b, o, none⟩, cap, w.setRow b (cs.toList.take (o + n * i.size) ++ news ++ cs.toList.drop (o + n * i.size + news.length)).toArray, ?_, ?_⟩
      · simp [Builtin.append_, run_underlying ht, run_underlying hT, sizeOf, typeInfo, zeroValue, asInt, asIntOf, hi, hz, hw, hneg, hnz, h48i, hroom, addr_add, hna, hst]
      · have R' : Row (w.setRow b (cs.toList.take (o + n * i.size) ++ news ++ cs.toList.drop (o + n * i.size + news.length)).toArray) i.size (some ⟨b, o, none⟩) (n + m) cap (xs ++ news) := by
          have hsz : (cs.toList.take (o + n * i.size) ++ news ++ cs.toList.drop (o + n * i.size + news.length)).toArray.size = cs.size := by simp; omega
          refine ⟨hlen, hroom, hr.max, (fun h => by cases h), fun ad e => ?_⟩
          injection e with e
          subst e
          refine ⟨rfl, _, h2.setRow _ hsz, by rw [hsz]; exact h3, ?_⟩
          have hxl := hr.len
          have e1 : (List.take (o + n * i.size) cs.toList).drop o = xs := by
            rw [List.drop_take]
            rw [show o + n * i.size - o = n * i.size by omega, h4]
          have e2 : o ≤ (List.take (o + n * i.size) cs.toList).length := by rw [List.length_take, Array.length_toList]; omega
          show List.take ((n + m) * i.size) (List.drop o (List.take (o + n * i.size) cs.toList ++ news ++ List.drop (o + n * i.size + news.length) cs.toList)) = xs ++ news
          rw [List.append_assoc, List.drop_append_of_le_length e2, e1, ← hlen, ← List.append_assoc, List.take_left]
        exact ⟨R', ⟨rfl, rfl, rfl, by simp, fun k _ hk => setRow_other w b k _ (by simpa [blks] using hk), fun k hk => .inl (by simpa [blks] using hk)⟩⟩
  · have h48' : Builtin.nextslicecap (n + m) cap * i.bytes ≤ 281474976710656 := by
      have := growslice_fits (need := n + m) (old := cap) (bytes := i.bytes) (by omega) hbytes
      omega
    have hfo : (Builtin.firstCells i.size n (.slice a n cap)).run P w.drew = .ok xs.toArray w.drew := by
      cases a with
      | none =>
        have hc := hr.nil rfl
        have hn : n = 0 := by have := hr.le; omega
        have hx : xs = [] := List.eq_nil_of_length_eq_zero (by rw [hr.len, hn]; simp)
        subst hx
        simp [Builtin.firstCells]
      | some ad =>
        obtain ⟨b, o, s⟩ := ad
        obtain ⟨hsp, _⟩ := hr.at_ _ rfl
        simp at hsp
        subst hsp
        refine run_firstCells_some w.drew i.size n ⟨b, o, none⟩ n cap xs hr.len fun j u hu => ?_
        rw [addr_add, (hr.drew.cell rfl j (by rw [← hr.len]; exact (List.getElem?_eq_some_iff.1 hu).1)).1]
        exact hu
    have hge := grownCap_ge w (n + m) cap e
    have hcm := grownCap_le_maxLen w (n + m) cap e h63
    have hrun := Lib.run_append_grow_zeros (P := P) w t T ty e i z .i64 .i64 ht hT hi hz a n cap xs hfo m hm0 hs0 (by omega) (by simp only [maxLen] at h63; omega) (by
      have : m * i.bytes ≤ (n + m) * i.bytes := Nat.mul_le_mul_right _ (by omega)
      omega) h48'
    rw [hna] at hrun
    refine ⟨_, _, _, hrun, ?_, ?_⟩
    · have hsz : (xs.toArray ++ news.toArray ++ Builtin.zeroCells z.cells (grownCap w (n + m) cap e - (n + m))).size = grownCap w (n + m) cap e * i.size := by
        simp only [Array.size_append, List.size_toArray, size_zeroCells, hzs, hr.len, hns, ← Nat.add_mul]
        congr 1
        omega
      refine ⟨hlen, hge, hcm, (fun h => by cases h), fun ad e => ?_⟩
      injection e with e
      subst e
      refine ⟨rfl, _, (Blk.new w.drew _ _).cells, by rw [hsz]; simp, ?_⟩
      simp only [List.drop_zero, Array.toList_append, List.append_assoc]
      rw [← List.append_assoc, ← hlen]
      exact List.take_left
    · exact ⟨rfl, rfl, rfl, by simp, fun k hk _ => Below.heap_alloc w.drew _ k hk, fun k hk => .inr (by simp [blks] at hk; omega)⟩
section
variable {P : Program} {w : World}
theorem wpList_append_zeros {ops : Array Oper} {rest : List Oper} {o : Oper} {ac : Act} {Q : Exit → Act → World → Prop} (hgd : o.guard = none) (sl x : Operand) (t T : TypeId)
    (ho : o.op = .call { callee := .builtin .append, args := #[sl, x], argTypes := #[t, T] })
    (e : TypeId) (i : TypeInfo) (z : Value) (sz bytes : Nat) (ht : P.underlying t = some (.slice e)) (hT : P.underlying T = some (.int .i64)) (hi : P.info? e = some i) (hz : i.zero = some z)
    (hsize : i.size = sz) (hby : i.bytes = bytes) (hzs : z.cells.size = sz) {a : Option Addr} {n cap : Nat} {xs : List Value} (hv : ac.eval sl = .slice a n cap) (hr : Row w sz a n cap xs)
    {m : Nat} (hx : ac.eval x = .int .i64 m) (hm0 : 0 < m) (hs0 : 0 < sz) (hone : ∀ u ∈ (Builtin.zeroCells z.cells m).toList, u.oneCell' = true) (h63 : n + m ≤ maxLen) (hbytes : (n + m) * bytes ≤ 140737488355328) (hb0 : 0 < bytes)
    (h : ∀ a' cap' w', Row w' sz a' (n + m) cap' (xs ++ (Builtin.zeroCells z.cells m).toList) → Step (blks a) (blks a') w w' → wpList P ops Q rest (ac.put o.dst (.slice a' (n + m) cap')) w') : wpList P ops Q (o :: rest) ac w := by
  refine wpList_plain hgd fun _ hK => ?_
  obtain ⟨a', cap', w', hrun, h2, h3⟩ := run_append_zeros_row (P := P) t T o.type e i z sz bytes ht hT hi hz hsize hby hzs hr hm0 hs0 hone h63 hbytes hb0
  unfold Oper.wp execOp
  simp only [ho, resolve, invoke, builtin, Sem.run_bind, Sem.run_pure, Result.andThen_ok, List.map_toArray, List.map_cons, List.map_nil, hv, hx, hrun]
  exact hK _ _ (h a' cap' w' h2 h3)
end
end Go.Proofs.YtjdgdmlhipbaaaaGreatDoor
namespace Go.Proofs.YtjdgdmlhipbaaaaGreatDoor
open Go.RowKit
set_option linter.unusedSimpArgs false
set_option linter.unusedVariables false
set_option maxRecDepth 100000

abbrev bo (b : Bool) : Value := .bool b
def bos (l : List Bool) : List Value := l.map bo
theorem bos_one (l : List Bool) : ∀ u ∈ bos l, u.oneCell' = true := by intro u hu; obtain ⟨b, _, rfl⟩ := List.mem_map.1 hu; rfl
theorem bos_app (l m : List Bool) : bos (l ++ m) = bos l ++ bos m := by simp [bos]
theorem bos_at {l : List Bool} {j : Nat} (h : j < l.length) : (bos l)[j]? = some (bo (l.getD j false)) := by
 unfold bos
 rw [List.getElem?_map, List.getD_eq_getElem?_getD, List.getElem?_eq_getElem h]
 rfl
theorem Tryz.info_bool : (Tryz.prog.info? 4).map (fun i => (i.zero, i.size, i.bytes)) = some (some (.bool false), 1, 1) := by kernel_rfl
theorem bit_div (v : Wd) (k : Nat) : (v.toNat / 2 ^ k) % 2 = if v.getLsbD k then 1 else 0 := by
 unfold BitVec.getLsbD
 rw [Nat.testBit_eq_decide_div_mod_eq]
 by_cases h : v.toNat / 2 ^ k % 2 = 1
 ·rw [h]; simp
 ·rw [if_neg (by simpa using h)]; omega
def BitsP (b : List UInt8) (w : World) (e : Ending) (w' : World) : Prop := ∃ a cap, e = .returned (.slice a (b.length * 8) cap) ∧ Row w' 1 a (b.length * 8) cap (bos (b.flatMap bitsB)) ∧ Step [] (blks a) w w'
theorem wb_nat (c : UInt8) : (wb c).toNat = c.toNat := by
 unfold wb
 rw [BitVec.toNat_ofNat]
 exact Nat.mod_eq_of_lt (by have := c.toNat_lt; omega)
set_option maxHeartbeats 4000000 in
theorem bits01_any (b : List UInt8) (a : Option Addr) (cap : Nat) (w : World) (hr : Rd w 1 a b.length (b.map bv)) (hl : b.length ≤ 4294967296) : Calls Tryz.prog 85 #[.slice a b.length cap] w (BitsP b w) := by
 obtain ⟨i0, hi, hz0, hz1, hz2⟩ := info_parts Tryz.info_bool
 have HI := Lib.hid (And.intro hi (And.intro hz0 (And.intro hz1 hz2)))
 have HR := Lib.hid hr
 clear hi hz0 hz1 hz2 hr
 go_enter Tryz.func85, Tryz.ntmps85
 go_wp2_with fail
 go_loopw [3, 10] (fun lv i W => ∃ (k : Nat) (oa : Option Addr) (oc : Nat), i = .int .i64 k ∧ k ≤ b.length ∧ lv = .slice oa (k * 8) oc ∧ Hid (Row W 1 oa (k * 8) oc (bos ((b.take k).flatMap bitsB)) ∧ Step [] (blks oa) w W)) (fun _ i _ => b.length - (intOf i).toNat)
 case atStart => exact ⟨0, _, _, rfl, by omega, rfl, Lib.hid ⟨row_fresh w 4 [] (by simp), (Step.refl [] w).hold _⟩⟩
 case round =>
  rename World => W
  obtain ⟨k, oa, oc, rfl, hk, rfl, HW⟩ := hrel
  by_cases hlt : k < b.length
  ·have hlt' : (k : Int) < b.length := by omega
   obtain ⟨c, hc⟩ : ∃ c, b[k]? = some c := ⟨_, List.getElem?_eq_getElem hlt⟩
   have r1 := HR.out.step0 HW.out.2
   obtain ⟨g, off, hs1⟩ := r1.some_ (by omega)
   rw [hs1] at r1
   have z0 := r1.cell g off none rfl k (bv c) (by rw [List.getElem?_map, hc]; rfl)
   have gl : g < W.heap.size := by have := World.block_lt_of_cell? _ _ z0; simpa using this
   have HC := Lib.hid hc
   rw [hs1]
   clear r1 hc
   go_wp2_with fail
   go_loopw [3, 5, 6] (fun lv cv i V => ∃ (j m x : Nat) (pa : Option Addr) (pc : Nat), i = .int .i64 j ∧ j ≤ 8 ∧ m = k * 8 + j ∧ lv = .slice pa m pc ∧ x = c.toNat / 2 ^ j ∧ cv = .int .u8 (x : Int) ∧ Hid (Row V 1 pa m pc (bos ((b.take k).flatMap bitsB ++ bitsW (wb c) j)) ∧ Step [] (blks pa) w V)) (fun _ _ i _ => 8 - (intOf i).toNat)
   case atStart => exact ⟨0, k * 8, c.toNat, oa, oc, rfl, by omega, by omega, rfl, by simp, rfl, Lib.hid ⟨by simpa [bitsW] using HW.out.1, HW.out.2⟩⟩
   case round =>
    rename World => V
    obtain ⟨j, m, x, pa, pc, rfl, hj, hm, rfl, hx, rfl, HV⟩ := hrel
    have HM := Lib.hid hm
    have hmm : m ≤ 34359738376 := by omega
    clear hm z0 gl
    by_cases hj8 : j < 8
    ·have hj8' : (j : Int) < 8 := by omega
     obtain ⟨q, hq⟩ : ∃ q, q = (wb c).getLsbD j := ⟨_, rfl⟩
     have hx2 : x % 2 = if q then 1 else 0 := by rw [hq, hx, ← wb_nat c]; exact bit_div (wb c) j
     have hxb : x < 256 := by rw [hx]; exact Nat.lt_of_le_of_lt (Nat.div_le_self _ _) c.toNat_lt
     have htd : (x : Int) / 2 = ((x / 2 : Nat) : Int) := by omega
     have hwd : IntKind.u8.wrap ((x / 2 : Nat) : Int) = ((x / 2 : Nat) : Int) := IntWalk.u8_in _ (by omega)
     have hx3 : Hid (x / 2 = c.toNat / 2 ^ (j + 1)) := Lib.hid (by rw [hx, Nat.div_div_eq_div_mul, Nat.pow_succ])
     have hb : ((x : Int) % 2 == 1) = q := by
      cases q with
      | true => simp at hx2; simp; omega
      | false => simp at hx2; simp; omega
     have HQ := Lib.hid hq
     clear hq hx2 hx
     have HAP : Hid (Row (V.alloc (.cells #[.bool q] 4)) 1 pa m pc (bos ((b.take k).flatMap bitsB ++ bitsW (wb c) j)) ∧ Rd (V.alloc (.cells #[.bool q] 4)) 1 (some ⟨V.heap.size, 0, none⟩) 1 (bos [q])) := Lib.hid ⟨HV.out.1.alloc _, rd_blk' (xs := bos [q]) (Blk.new V 4 #[.bool q]) 1 1 rfl⟩
     go_wp2_with (at_builtin; refine wpList_append_row rfl (.tmp 18) (.tmp 22) 122 122 rfl 4 i0 _ 1 1 Tryz.underlying122 HI.out.1 HI.out.2.1 HI.out.2.2.1 HI.out.2.2.2 rfl rfl HAP.out.1 rfl (Src.rd 122 4 Tryz.underlying122 HAP.out.2 (bos_one [q])) (by unfold maxLen; omega) (by omega) (by omega) ?_; intro a9 c9 w9 hr9 st9; have H9 := Lib.hid (And.intro hr9 st9); clear hr9 st9)
     have HN : Hid (Row w9 1 a9 (m + 1) c9 (bos ((b.take k).flatMap bitsB ++ bitsW (wb c) (j + 1))) ∧ Step [] (blks a9) w w9) := Lib.hid (by
      refine ⟨?_, (HV.out.2.alloc _).trans H9.out.2⟩
      rw [bits_succ, ← HQ.out, ← List.append_assoc]
      have h := H9.out.1
      rwa [← bos_app] at h)
     clear H9 HV HAP hb htd hwd
     go_wp2_with fail
     go_roundw
     case rel => exact ⟨j + 1, m + 1, x / 2, a9, c9, by go_num, by omega, by have := HM.out; omega, rfl, hx3.out, by go_num, HN⟩
     case measure => simp [intOf]; omega
    ·obtain rfl : j = 8 := by omega
     obtain rfl : m = (k + 1) * 8 := by have := HM.out; omega
     have HN : Hid (Row V 1 pa ((k + 1) * 8) pc (bos ((b.take (k + 1)).flatMap bitsB)) ∧ Step [] (blks pa) w V) := Lib.hid (by
      rw [List.take_add_one, HC.out, List.flatMap_append]
      exact ⟨by simpa [bitsB] using HV.out.1, HV.out.2⟩)
     clear HV HM hx
     go_wp2_with fail
     go_roundw
     case rel => exact ⟨k + 1, pa, pc, by go_num, by omega, rfl, HN⟩
     case measure => simp [intOf]; omega
  ·obtain rfl : k = b.length := by omega
   have hnl : ¬ (b.length : Int) < b.length := by omega
   have HZ := HW.out
   rw [List.take_length] at HZ
   have HZ2 := Lib.hid HZ
   clear HZ HW
   go_wp2_with fail
   exact bodyPost_ret (results_tmp rfl _ _ _) rfl ⟨_, _, rfl, HZ2.out.1, HZ2.out.2⟩
theorem bos_set (l : List Bool) (n : Nat) (b : Bool) : bos (l.set n b) = (bos l).set n (.bool b) := by simp [bos, List.map_set]
theorem dbl_wrap (s : Wd) : IntKind.u32.wrap ((s.toNat : Int) * 2) = ((s + s).toNat : Int) := by
 rw [BitVec.toNat_add]
 simp [IntKind.wrap, IntKind.bits, IntKind.signed]
 omega
theorem inc_wrap (s : Wd) : IntKind.u32.wrap ((s.toNat : Int) + 1) = ((s + 1#32).toNat : Int) := by
 rw [BitVec.toNat_add]
 simp [IntKind.wrap, IntKind.bits, IntKind.signed]
def pows : List Value := powersR.map fun p : Nat => .int .i64 (p : Int)
set_option maxHeartbeats 4000000 in
theorem divide01_any (l : List Bool) (g off cap : Nat) (w : World) (hr : Row w 1 (some ⟨g, off, none⟩) l.length cap (bos l)) (h32 : 32 ≤ l.length) (hl : l.length ≤ 68719476736) : Calls Tryz.prog 86 #[.slice (some ⟨g, off, none⟩) l.length cap] w fun e w' => e = .returned (.int .u32 ((sumBits (divN l (l.length - 32)) 32 0#32).toNat : Int)) ∧ Step [g] [g] w w' := by
 have HR := Lib.hid hr
 clear hr
 go_enter Tryz.func86, Tryz.ntmps86
 go_upto_region 2 with fail
 obtain ⟨pb, hpb⟩ : ∃ pb, pb = w.heap.size := ⟨_, rfl⟩
 obtain ⟨V, hV⟩ : ∃ V, V = w.alloc (.cells (pows.toArray) 3) := ⟨_, rfl⟩
 have H0 : Hid (Row V 1 (some ⟨g, off, none⟩) l.length cap (bos (divN l 0)) ∧ Rd V 1 (some ⟨pb, 0, none⟩) 14 pows ∧ Step [g] [g] w V ∧ pb ≠ g) := by
  subst hV hpb
  exact ⟨HR.out.alloc _, rd_blk' (xs := pows) (Blk.new w _ pows.toArray) 1 14 rfl, (Step.refl [g] w).alloc _, fun e => by have := HR.out.lt g (by simp [blks]); omega⟩
 change Code.wp _ _ _ _ (w.alloc (.cells (pows.toArray) 3))
 rw [← hV]
 try rw [← hpb]
 clear hV hpb
 obtain ⟨N, hN⟩ : ∃ N, N = l.length := ⟨_, rfl⟩
 have HN := Lib.hid hN
 rw [← hN] at h32 hl H0
 rw [← hN]
 clear hN HR
 go_upto_block 0 with fail
 go_cut [] (fun wx => Hid (Row wx 1 (some ⟨g, off, none⟩) N cap (bos (divN l (N - 32))) ∧ Step [g] [g] w wx))
 case first =>
  go_wp2_with fail
  go_loopw [4] (fun i W => ∃ k : Nat, i = .int .i64 k ∧ k + 32 ≤ N ∧ Hid (Row W 1 (some ⟨g, off, none⟩) N cap (bos (divN l k)) ∧ Rd W 1 (some ⟨pb, 0, none⟩) 14 pows ∧ Step [g] [g] w W ∧ pb ≠ g)) (fun i _ => N - (intOf i).toNat)
  case atStart => exact ⟨0, rfl, by omega, H0⟩
  case round =>
   rename World => W
   obtain ⟨k, rfl, hk, HW⟩ := hrel
   by_cases hlt : k + 32 < N
   ·have hlt' : (k : Int) + 32 < N := by omega
    have hld : decide ((k : Int) + 32 < N) = true := decide_eq_true hlt'
    have hdl : (divN l k).length = N := by rw [divN_len, HN.out]
    obtain ⟨q, hq⟩ : ∃ q, q = (divN l k).getD k false := ⟨_, rfl⟩
    have z0 := (HW.out.1.cell rfl k (by omega)).1
    rw [bos_at (by omega), ← hq] at z0
    have gl : g < W.heap.size := HW.out.1.lt g (by simp [blks])
    have HQ := Lib.hid hq
    clear hq
    cases q with
    | false =>
     have HNX : Hid (divN l (k + 1) = divN l k) := Lib.hid (by rw [divN, divStep, ← HQ.out]; rfl)
     go_wp2_with fail
     go_roundw
     case rel => exact ⟨k + 1, by go_num, by omega, Lib.hid (by rw [HNX.out]; exact HW.out)⟩
     case measure => simp [intOf]; omega
    | true =>
     have HNX : Hid (divN l (k + 1) = (powersR.take 14).foldl (fun l p => flipR l (k + 32 - p)) (divN l k)) := Lib.hid (by rw [divN, divStep, ← HQ.out]; rfl)
     go_wp2_with fail
     clear z0
     go_loopw [23] (fun i V => ∃ j : Nat, i = .int .i64 j ∧ j ≤ 14 ∧ Hid (Row V 1 (some ⟨g, off, none⟩) N cap (bos ((powersR.take j).foldl (fun l p => flipR l (k + 32 - p)) (divN l k))) ∧ Rd V 1 (some ⟨pb, 0, none⟩) 14 pows ∧ Step [g] [g] w V)) (fun i _ => 14 - (intOf i).toNat)
     case atStart => exact ⟨0, rfl, by omega, Lib.hid ⟨HW.out.1, HW.out.2.1, HW.out.2.2.1⟩⟩
     case round =>
      rename World => X
      obtain ⟨j, rfl, hj, HV⟩ := hrel
      by_cases hj14 : j < 14
      ·have hj' : (j : Int) < 14 := by omega
       obtain ⟨p, hp⟩ : ∃ p, powersR[j]? = some p := ⟨_, List.getElem?_eq_getElem hj14⟩
       have hp32 : p < 32 := powers_lt p (List.mem_of_getElem? hp)
       have y0 := HV.out.2.1.cell pb 0 none rfl j (.int .i64 (p : Int)) (by unfold pows; rw [List.getElem?_map, hp]; rfl)
       rw [Nat.zero_add] at y0
       have pl : pb < X.heap.size := by have := World.block_lt_of_cell? _ _ y0; simpa using this
       have gl : g < X.heap.size := HV.out.1.lt g (by simp [blks])
       obtain ⟨n, hn⟩ : ∃ n, n = k + 32 - p := ⟨_, rfl⟩
       have hni : (k : Int) + 32 - (p : Int) = (n : Int) := by omega
       have hnN : n < N := by omega
       obtain ⟨D, hD⟩ : ∃ D, D = (powersR.take j).foldl (fun l p => flipR l (k + 32 - p)) (divN l k) := ⟨_, rfl⟩
       have hDl : D.length = N := by rw [hD, flips_len, hdl]
       have HD : Hid ((powersR.take (j + 1)).foldl (fun l p => flipR l (k + 32 - p)) (divN l k) = D.set n (!(D.getD n false))) := Lib.hid (by
        rw [List.take_add_one, hp, List.foldl_append, ← hD, hn]; rfl)
       have HV2 : Hid (Row X 1 (some ⟨g, off, none⟩) N cap (bos D) ∧ Rd X 1 (some ⟨pb, 0, none⟩) 14 pows ∧ Step [g] [g] w X) := by rw [hD]; exact HV
       have y1 := (HV2.out.1.cell rfl n (by omega)).1
       have y2 := (HV2.out.1.cell rfl n (by omega)).2.1
       rw [bos_at (by omega)] at y1
       obtain ⟨dq, hdq⟩ : ∃ dq, dq = D.getD n false := ⟨_, rfl⟩
       rw [← hdq] at y1 HD
       clear hD hdq hn hp HV
       have HX : Hid (Row (X.setCell ⟨g, off + n, none⟩ (.bool (!dq))) 1 (some ⟨g, off, none⟩) N cap (bos ((powersR.take (j + 1)).foldl (fun l p => flipR l (k + 32 - p)) (divN l k))) ∧ Rd (X.setCell ⟨g, off + n, none⟩ (.bool (!dq))) 1 (some ⟨pb, 0, none⟩) 14 pows ∧ Step [g] [g] w (X.setCell ⟨g, off + n, none⟩ (.bool (!dq)))) := Lib.hid (by
        have k1 : Step [g] [g] X (X.setCell ⟨g, off + n, none⟩ (.bool (!dq))) := (Step.refl [g] X).setCell (.inl (by simp)) _
        refine ⟨?_, HV2.out.2.1.step k1 (fun z hz hm => by simp [blks] at hz hm; subst hz; exact HW.out.2.2.2 hm), HV2.out.2.2.trans k1⟩
        rw [HD.out]
        have h := HV2.out.1.set rfl n (by omega) (.bool (!dq))
        rwa [← bos_set] at h)
       clear HD
       go_wp2_with fail
       go_roundw
       case rel => exact ⟨j + 1, by go_num, by omega, HX⟩
       case measure => simp [intOf]; omega
      ·obtain rfl : j = 14 := by omega
       go_wp2_with fail
       go_roundw
       case rel => exact ⟨k + 1, by go_num, by omega, Lib.hid (by rw [HNX.out]; exact ⟨HV.out.1, HV.out.2.1, HV.out.2.2, HW.out.2.2.2⟩)⟩
       case measure => simp [intOf]; omega
   ·obtain rfl : k = N - 32 := by omega
    have hnl : ¬ ((N - 32 : Nat) : Int) + 32 < N := by omega
    have hld : decide (((N - 32 : Nat) : Int) + 32 < N) = false := decide_eq_false hnl
    go_wp2_with fail
    go_meet
    exact ⟨HW.out.1, HW.out.2.2.1⟩
 case rest =>
  rename World => W0
  obtain ⟨D, hD⟩ : ∃ D, D = divN l (N - 32) := ⟨_, rfl⟩
  have hDl : D.length = N := by rw [hD, divN_len, HN.out]
  have HR : Hid (sumBits (divN l (l.length - 32)) 32 0#32 = sumBits D 32 0#32) := Lib.hid (by rw [hD, HN.out])
  have HC := hcut
  clear hcut
  rw [← hD] at HC
  clear hD
  obtain ⟨z, hz⟩ : ∃ z, z = sumBits D 32 0#32 := ⟨_, rfl⟩
  have HZ := Lib.hid hz
  clear hz
  have gl : g < W0.heap.size := HC.out.1.lt g (by simp [blks])
  go_wp2_with fail
  go_loopw [7, 8] (fun sv kv X => ∃ (j : Nat) (s : Wd), kv = .int .i64 ((j : Int) - 1) ∧ j ≤ 32 ∧ sv = .int .u32 (s.toNat : Int) ∧ Hid (sumBits D j s = z) ∧ X = W0) (fun _ kv _ => (intOf kv + 1).toNat)
  case atStart => exact ⟨32, 0#32, rfl, by omega, rfl, Lib.hid HZ.out.symm, rfl⟩
  case round =>
   rename World => X
   obtain ⟨j, s, rfl, hj, rfl, HS, rfl⟩ := hrel
   cases j with
   | zero =>
    have hd : decide ((0 : Int) ≤ ((0 : Nat) : Int) - 1) = false := by decide
    have HE : Hid (s = z) := Lib.hid HS.out
    go_wp2_with fail
    exact bodyPost_ret (results_tmp rfl _ _ _) rfl ⟨by rw [HR.out, ← HZ.out, HE.out]; rfl, HC.out.2⟩
   | succ j =>
    have hk : ((j + 1 : Nat) : Int) - 1 = (j : Int) := by omega
    rw [hk]
    clear hk
    have hdbl : IntKind.u32.wrap ((s.toNat : Int) * 2) = ((s + s).toNat : Int) := dbl_wrap s
    obtain ⟨s2, hs2⟩ : ∃ s2, s2 = s + s := ⟨_, rfl⟩
    rw [← hs2] at hdbl
    have hinc : IntKind.u32.wrap ((s2.toNat : Int) + 1) = ((s2 + 1#32).toNat : Int) := inc_wrap s2
    obtain ⟨n, hn⟩ : ∃ n, n = N - 32 + j := ⟨_, rfl⟩
    have hni : (N : Int) - 32 + (j : Int) = (n : Int) := by omega
    have hnN : n < N := by omega
    have y1 := (HC.out.1.cell rfl n (by omega)).1
    rw [bos_at (by omega)] at y1
    obtain ⟨dq, hdq⟩ : ∃ dq, dq = D.getD n false := ⟨_, rfl⟩
    have HS2 : Hid (sumBits D j (if dq then s2 else s2 + 1#32) = z) := Lib.hid (by rw [← HS.out, sumBits, hDl, ← hn, ← hdq, ← hs2])
    rw [← hdq] at y1
    clear hdq hn hs2 HS
    cases dq with
    | true =>
     go_wp2_with fail
     go_roundw
     case rel => exact ⟨j, s2, by go_num, by omega, rfl, HS2, trivial⟩
     case measure => simp [intOf]
    | false =>
     go_wp2_with fail
     go_roundw
     case rel => exact ⟨j, s2 + 1#32, by go_num, by omega, rfl, HS2, trivial⟩
     case measure => simp [intOf]
theorem zeros32 : (Builtin.zeroCells (Value.bool false).cells 32).toList = bos (List.replicate 32 false) := by kernel_rfl
set_option maxHeartbeats 4000000 in
theorem of01_any (b : List UInt8) (a : Option Addr) (cap : Nat) (w : World) (hr : Rd w 1 a b.length (b.map bv)) (hl : b.length ≤ 4294967296) : Calls Tryz.prog 65 #[.slice a b.length cap] w fun e w' => e = .returned (.int .u32 ((crcL b).toNat : Int)) ∧ Step [] [] w w' := by
 obtain ⟨i0, hi, hz0, hz1, hz2⟩ := info_parts Tryz.info_bool
 have HI := Lib.hid (And.intro hi (And.intro hz0 (And.intro hz1 hz2)))
 clear hi hz0 hz1 hz2
 go_enter Tryz.func65, Tryz.ntmps65
 go_wp2_with fail
 refine (bits01_any b a cap w hr (by omega)).mono ?_
 rintro e w1 ⟨a1, c1, rfl, hrow, st1⟩
 have H1 := Lib.hid (And.intro hrow st1)
 clear hrow st1 hr
 go_wp2_with (at_builtin; refine wpList_append_zeros (m := 32) rfl (.tmp 6) (.const (.int .i64 32)) 122 3 rfl 4 i0 _ 1 1 Tryz.underlying122 Tryz.underlying3 HI.out.1 HI.out.2.1 HI.out.2.2.1 HI.out.2.2.2 rfl rfl H1.out.1 rfl (by omega) (by omega) (by rw [zeros32]; exact bos_one _) (by unfold maxLen; omega) (by omega) (by omega) ?_; intro a2 c2 w2 hr2 st2)
 have H2 : Hid (Row w2 1 a2 (b.length * 8 + 32) c2 (bos (messL b)) ∧ Step [] (blks a2) w w2) := Lib.hid ⟨by rw [zeros32, ← bos_app] at hr2; exact hr2, H1.out.2.trans st2⟩
 clear hr2 st2 H1
 obtain ⟨g, off, rfl⟩ := H2.out.1.some_of_pos (by omega)
 have H3 : Hid (Row w2 1 (some ⟨g, off, none⟩) (b.length * 8 + 32) c2 (bos (flip32 (messL b) 0)) ∧ Step [] [g] w w2) := Lib.hid (by simpa [blks, flip32] using H2.out)
 clear H2
 obtain ⟨N, hN⟩ : ∃ N, N = b.length * 8 + 32 := ⟨_, rfl⟩
 rw [← hN] at H3 ⊢
 have HN := Lib.hid hN
 have hNl : N ≤ 68719476736 := by omega
 have hN32 : 32 ≤ N := by omega
 clear hN
 go_wp2_with fail
 go_loopw [4] (fun i W => ∃ k : Nat, i = .int .i64 k ∧ k ≤ 32 ∧ Hid (Row W 1 (some ⟨g, off, none⟩) N c2 (bos (flip32 (messL b) k)) ∧ Step [] [g] w W)) (fun i _ => 32 - (intOf i).toNat)
 case atStart => exact ⟨0, rfl, by omega, H3⟩
 case round =>
  rename World => W
  obtain ⟨k, rfl, hk, HW⟩ := hrel
  have gl : g < W.heap.size := HW.out.1.lt g (by simp [blks])
  have hml : (flip32 (messL b) k).length = N := by rw [flip32_len, mess_len, HN.out]
  by_cases hlt : k < 32
  ·have hlt' : (k : Int) < 32 := by omega
   have hld : decide ((k : Int) < 32) = true := decide_eq_true hlt'
   obtain ⟨q, hq⟩ : ∃ q, q = (flip32 (messL b) k).getD k false := ⟨_, rfl⟩
   have z0 := (HW.out.1.cell rfl k (by omega)).1
   have z1 := (HW.out.1.cell rfl k (by omega)).2.1
   rw [bos_at (by omega), ← hq] at z0
   have hkN : k < N := by omega
   have HX : Hid (Row (W.setCell ⟨g, off + k, none⟩ (.bool (!q))) 1 (some ⟨g, off, none⟩) N c2 (bos (flip32 (messL b) (k + 1))) ∧ Step [] [g] w (W.setCell ⟨g, off + k, none⟩ (.bool (!q)))) := Lib.hid (by
    refine ⟨?_, HW.out.2.setCell (.inl (by simp)) _⟩
    rw [flip32, flipR, bos_set, ← hq]
    exact HW.out.1.set rfl k (by omega) _)
   clear hq
   go_wp2_with fail
   go_roundw
   case rel => exact ⟨k + 1, by go_num, by omega, HX⟩
   case measure => simp [intOf]; omega
  ·obtain rfl : k = 32 := by omega
   go_wp2_with fail
   have hc := divide01_any (flip32 (messL b) 32) g off c2 W (by rw [hml]; exact HW.out.1) (by omega) (by omega)
   rw [hml, show N - 32 = b.length * 8 by have := HN.out; omega, sum_left] at hc
   refine hc.mono ?_
   rintro e w3 ⟨rfl, st3⟩
   have H4 : Hid (Step [] [] w w3) := Lib.hid ((HW.out.2.trans st3).drop (by simp))
   clear st3 HW hc
   go_wp2_with fail
   exact bodyPost_ret (results_tmp rfl _ _ _) rfl ⟨rfl, H4.out⟩

end Go.Proofs.YtjdgdmlhipbaaaaGreatDoor
