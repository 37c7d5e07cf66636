/-
  audit's point.walk. Condition: at most 2^40 lines, texts of at most 2^30 bytes.
-/
import Derived.Test.YtdiacfbflbenoaaAuditE
namespace Go.Proofs.Ytdiacfbflbenoaa
open Go.RowKit
set_option linter.unusedSimpArgs false
set_option linter.unusedVariables false
set_option maxRecDepth 100000

def prevAt (l : List Ln) (k : Nat) : Option Int := if k = 0 then none else (l[k - 1]?).map (·.index)
theorem walk_no (p : Pt) (i : Option Int) (x : Ln) (r : List Ln) (h : stepOk p x = false ∨ ∃ j, i = some j ∧ x.index ≤ j) : walkF p i (x :: r) = (p, false) := by
  simp only [walkF]
  rw [if_neg]
  rintro ⟨h1, h2⟩
  rcases h with h | ⟨j, hj, hle⟩
  · rw [h] at h1; cases h1
  · have := h2 j hj; omega
theorem walk_yes (p : Pt) (i : Option Int) (x : Ln) (r : List Ln) (h : stepOk p x = true) (h2 : ∀ j, i = some j → j < x.index) : walkF p i (x :: r) = walkF (stepPt p x) (some x.index) r := by
  simp only [walkF]
  rw [if_pos ⟨h, h2⟩]
theorem walkL_bad (q : Pt) (l : List Ln) (h : baseOk q = false) : walkL q l = (q, false) := by simp [walkL, h]
theorem walkL_good (q : Pt) (l : List Ln) (h : baseOk q = true) : walkL q l = walkF q none l := by simp [walkL, h]

set_option maxHeartbeats 8000000 in
theorem walk_any (q : Pt) (l : List Ln) (a : Option Addr) (cap : Nat) (w : World) (hr : Rd w 8 a l.length (lncs l)) (hl : l.length ≤ 1099511627776) (hx : ∀ x ∈ l, LnOk x) (hh : q.hash.length ≤ 1073741824) :
    Calls Try.prog 31 #[.agg #[.int .i64 q.count, Str q.hash], .slice a l.length cap] w fun e w' => e = .returned (.tuple #[.agg #[.int .i64 (walkL q l).1.count, Str (walkL q l).1.hash], .bool (walkL q l).2]) ∧ Step [] [] w w' := by
  obtain ⟨count, hash⟩ := q
  simp only at hh
  have HR := Lib.hid (And.intro hr hx)
  clear hr hx
  go_enter Try.func31, Try.ntmps31
  go_wp2_with fail
  refine (isNum_any count _).mono ?_
  rintro e w1 ⟨rfl, hw1⟩
  have s1 : (w.alloc (.cells #[.int .i64 count, Str hash] 57)).heap.size = w.heap.size + 1 := by simp
  have b1 := Blk.new (w.alloc (.cells #[.int .i64 count, Str hash] 57)) 57 #[.int .i64 0, Str []]
  rw [s1] at b1
  have H1 : Hid (Blk w1 w.heap.size 57 #[.int .i64 count, Str hash] ∧ Blk w1 (w.heap.size + 1) 57 #[.int .i64 0, Str []] ∧ Step [] [] w w1) := by
    rw [← hw1]
    exact ⟨(Blk.new w _ _).alloc _, b1, ((Step.refl [] w).alloc _).alloc _⟩
  clear hw1 s1 b1
  cases hn : isNumL count with
  | false =>
    have HB := Lib.hid (walkL_bad ⟨count, hash⟩ l (by simp [baseOk, hn]))
    clear hn
    have z0 := H1.out.1.pt
    have z1 := H1.out.2.1.pt
    have zf0 := H1.out.2.1.frozen 0
    have zf1 := H1.out.2.1.frozen 1
    have dd := H1.out.2.1.put2 (.int .i64 count) (Str hash)
    have HDD := Lib.hid dd
    have HLT := Lib.hid (And.intro H1.out.1.lt H1.out.2.1.lt)
    clear dd
    go_wp2_with fail
    have dd := HDD.out
    refine bodyPost_ret (v := .tuple #[.agg #[.int .i64 count, Str hash], .bool false]) ?_ rfl ⟨by (rw [HB.out]), ?_⟩
    · simp [results, Try.results31, go_sem, dd.1, dd.2]
    · exact (H1.out.2.2.setCell (.inr (Nat.le_succ _)) _).setCell (.inr (Nat.le_succ _)) _
  | true =>
    by_cases h32 : hash.length = 32
    · have h32a : ((hash.length : Int) == 32) = true := by simp; omega
      have h32b : ((hash.length : Int) != 32) = false := by simp; omega
      have HB := Lib.hid (walkL_good ⟨count, hash⟩ l (by simp [baseOk, hn, h32]))
      have hcb : 0 ≤ count ∧ count ≤ 1099511627776 := by simpa [isNumL] using hn
      obtain ⟨hcb1, hcb2⟩ := hcb
      have z := H1.out.1.pt
      have hb0 := H1.out.1.lt
      clear hn h32
      go_wp2_with fail
      clear z
      go_loopw [23] (fun i W => ∃ (k : Nat) (kc : Int) (kh : List UInt8), k ≤ l.length ∧ i = .int .i64 k ∧ 0 ≤ kc ∧ kc ≤ 2199023255552 ∧ kh.length ≤ 1073741824 ∧ Hid (Blk W w.heap.size 57 #[.int .i64 kc, Str kh] ∧ Blk W (w.heap.size + 1) 57 #[.int .i64 0, Str []] ∧ Step [] [] w W ∧ walkF ⟨kc, kh⟩ (prevAt l k) (l.drop k) = walkF ⟨count, hash⟩ none l ∧ kc = count + k))
        (fun i _ => l.length - (intOf i).toNat)
      case atStart => exact ⟨0, count, hash, by omega, rfl, hcb1, by omega, hh, H1.out.1, H1.out.2.1, H1.out.2.2, rfl, by omega⟩
      case round =>
        rename World => W
        obtain ⟨k, kc, kh, hk, rfl, hkc1, hkc2, hkh, HW⟩ := hrel
        by_cases hlt : k < l.length
        · have hlt' : (k : Int) < l.length := by omega
          obtain ⟨x, hxe⟩ : ∃ x, l[k]? = some x := ⟨_, List.getElem?_eq_getElem hlt⟩
          have hdr : l.drop k = x :: l.drop (k + 1) := by
            rw [List.drop_eq_getElem_cons hlt]
            rw [List.getElem?_eq_getElem hlt] at hxe
            injection hxe with hxe
            rw [hxe]
          have hrd := HR.out.1.step0 HW.out.2.2.1
          obtain ⟨g, off, rfl⟩ := hrd.some_ (by omega)
          have hcs := rd_line hrd hxe
          have hp := HW.out.1.pt
          have hb0 := HW.out.1.lt
          have hxok := HR.out.2 x (List.mem_of_getElem? hxe)
          have hrdn := Lib.hid hrd
          have hst := step_any ⟨kc, kh⟩ x
          have HX := Lib.hid (And.intro hxe (And.intro hdr (And.intro hxok hst)))
          clear hxe hdr hxok hrd hst
          go_wp2_with fail
          refine (HX.out.2.2.2 _ HX.out.2.2.1 ⟨by omega, by omega⟩ hkh).mono ?_
          rintro e w2 ⟨rfl, k2⟩
          have H2 : Hid (Blk w2 w.heap.size 57 #[.int .i64 kc, Str kh] ∧ Blk w2 (w.heap.size + 1) 57 #[.int .i64 0, Str []] ∧ Blk w2 W.heap.size 32 (lnc x).toArray ∧ Step [] [] w w2 ∧ Rd w2 8 (some ⟨g, off, none⟩) l.length (lncs l)) :=
            ⟨(HW.out.1.alloc _).step k2 (by simp), (HW.out.2.1.alloc _).step k2 (by simp), (Blk.new W _ _).step k2 (by simp), (HW.out.2.2.1.alloc _).trans k2, (hrdn.out.alloc _).step k2 (by simp)⟩
          clear k2 hcs hp hb0
          have z0 := H2.out.1.pt
          have z1 := H2.out.2.1.pt
          have zf0 := H2.out.2.1.frozen 0
          have zf1 := H2.out.2.1.frozen 1
          have yf0 := H2.out.1.frozen 0
          have yf1 := H2.out.1.frozen 1
          have lt0 := H2.out.1.lt
          have lt1 := H2.out.2.1.lt
          have lt2 := H2.out.2.2.1.lt
          have zx := H2.out.2.2.1.ln.1
          have dd := H2.out.2.1.put2 (.int .i64 kc) (Str kh)
          have HDD := Lib.hid dd
          clear dd
          have hsp : stepPt ⟨kc, kh⟩ x = ⟨kc + 1, nextL kc kh x⟩ := rfl
          rw [hsp]
          clear hsp
          cases hs : stepOk ⟨kc, kh⟩ x with
          | false =>
            have HE : Hid (walkL ⟨count, hash⟩ l = (⟨kc, kh⟩, false)) := by
              show _ = _
              rw [HB.out, ← HW.out.2.2.2.1, HX.out.2.1, walk_no _ _ _ _ (.inl hs)]
            clear hs
            go_wp2_with fail
            go_quiet (fail)
            obtain ⟨V, hV⟩ : ∃ V, V = (w2.alloc (.cells #[.int .i64 (kc + 1), Str (nextL kc kh x)] 57)).drewN nq := ⟨_, rfl⟩
            rw [← hV]
            have H3 : Hid (Blk V w.heap.size 57 #[.int .i64 kc, Str kh] ∧ Blk V (w.heap.size + 1) 57 #[.int .i64 0, Str []] ∧ Blk V w2.heap.size 57 #[.int .i64 (kc + 1), Str (nextL kc kh x)] ∧ Step [] [] w V) := by
              rw [hV]
              exact ⟨H2.out.1.alloc _, H2.out.2.1.alloc _, Blk.new w2 _ _, (H2.out.2.2.2.1.alloc _).drewN _⟩
            clear hV z0 z1 zf0 zf1 yf0 yf1 lt0 lt1 lt2 zx
            have z0 := H3.out.1.pt
            have z1 := H3.out.2.1.pt
            have zf0 := H3.out.2.1.frozen 0
            have zf1 := H3.out.2.1.frozen 1
            have dd := H3.out.2.1.put2 (.int .i64 kc) (Str kh)
            have HDD := Lib.hid dd
            clear dd
            go_wp2_with fail
            have dd := HDD.out
            refine bodyPost_ret (v := .tuple #[.agg #[.int .i64 kc, Str kh], .bool false]) ?_ rfl ⟨by (rw [HE.out]), ?_⟩
            · simp [results, Try.results31, go_sem, dd.1, dd.2]
            · exact (H3.out.2.2.2.setCell (.inr (Nat.le_succ _)) _).setCell (.inr (Nat.le_succ _)) _
          | true =>
            rcases Nat.eq_zero_or_pos k with hk0 | hk0
            · have HC : Hid (walkF ⟨kc + 1, nextL kc kh x⟩ (prevAt l (k + 1)) (l.drop (k + 1)) = walkF ⟨count, hash⟩ none l) := by
                show _ = _
                rw [← HW.out.2.2.2.1, HX.out.2.1, walk_yes _ _ _ _ hs (by intro j hj; simp [prevAt, hk0] at hj)]
                congr 1
                simp [prevAt, HX.out.1]
              have hk0' : ¬ (0 : Int) < k := by omega
              have hk0n : ¬ 0 < k := by omega
              have hk0d : decide (0 < k) = false := decide_eq_false hk0n
              clear hs hk0
              go_wp2_with fail
              go_quiet (fail)
              obtain ⟨V, hV⟩ : ∃ V, V = (w2.alloc (.cells #[.int .i64 (kc + 1), Str (nextL kc kh x)] 57)).drewN nq := ⟨_, rfl⟩
              rw [← hV]
              have H3 : Hid (Blk V w.heap.size 57 #[.int .i64 kc, Str kh] ∧ Blk V (w.heap.size + 1) 57 #[.int .i64 0, Str []] ∧ Blk V w2.heap.size 57 #[.int .i64 (kc + 1), Str (nextL kc kh x)] ∧ Step [] [] w V) := by
                rw [hV]
                exact ⟨H2.out.1.alloc _, H2.out.2.1.alloc _, Blk.new w2 _ _, (H2.out.2.2.2.1.alloc _).drewN _⟩
              clear hV z0 z1 zf0 zf1 yf0 yf1 lt0 lt1 lt2 zx
              have z2 := H3.out.2.2.1.pt
              have z0 := H3.out.1.pt
              have zf0 := H3.out.1.frozen 0
              have zf1 := H3.out.1.frozen 1
              go_wp2_with fail
              go_roundw
              case rel =>
                refine ⟨k + 1, kc + 1, nextL kc kh x, by omega, by go_num, by omega, by have := HW.out.2.2.2.2; omega, by rw [next_len]; omega, ?_, ?_, ?_, ?_, ?_⟩
                · have := (Blk.set H3.out.1 0 (.int .i64 (kc + 1))).set 1 (Str (nextL kc kh x))
                  simpa using this
                · exact (H3.out.2.1.far (Nat.succ_ne_self _) _).far (Nat.succ_ne_self _) _
                · exact (H3.out.2.2.2.setCell (.inr (Nat.le_refl _)) _).setCell (.inr (Nat.le_refl _)) _
                · exact HC.out
                · have := HW.out.2.2.2.2; omega
              case measure => simp [intOf]; omega
            · obtain ⟨y, hy⟩ : ∃ y, l[k - 1]? = some y := ⟨_, List.getElem?_eq_getElem (by omega)⟩
              have hyc := (rd_line H2.out.2.2.2.2 hy).1
              have hgl : g < w2.heap.size := by have := World.block_lt_of_cell? _ _ hyc; simpa using this
              have hk0' : (0 : Int) < k := by omega
              have hk0d : decide ((0 : Int) < (k : Int)) = true := decide_eq_true hk0'
              have q1 : IntKind.i64.wrap ((k : Int) - 1) = (k : Int) - 1 := IntWalk.i64_in _ (by omega)
              have q2 : (0 : Int) ≤ (k : Int) - 1 := by omega
              have q3 : (k : Int) - 1 < l.length := by omega
              have q4 : ((k : Int) - 1).toNat = k - 1 := by omega
              have hpv : prevAt l k = some y.index := by simp [prevAt, hy]; omega
              by_cases hle : x.index ≤ y.index
              · have HE : Hid (walkL ⟨count, hash⟩ l = (⟨kc, kh⟩, false)) := by
                  show _ = _
                  rw [HB.out, ← HW.out.2.2.2.1, HX.out.2.1, walk_no _ _ _ _ (.inr ⟨y.index, hpv, hle⟩)]
                have hled : decide (x.index ≤ y.index) = true := decide_eq_true hle
                clear hs hpv hy
                go_wp2_with fail
                go_quiet (fail)
                clear q1 q2 q3 q4 hyc
                obtain ⟨V, hV⟩ : ∃ V, V = (w2.alloc (.cells #[.int .i64 (kc + 1), Str (nextL kc kh x)] 57)).drewN nq := ⟨_, rfl⟩
                rw [← hV]
                have H3 : Hid (Blk V w.heap.size 57 #[.int .i64 kc, Str kh] ∧ Blk V (w.heap.size + 1) 57 #[.int .i64 0, Str []] ∧ Blk V w2.heap.size 57 #[.int .i64 (kc + 1), Str (nextL kc kh x)] ∧ Step [] [] w V) := by
                  rw [hV]
                  exact ⟨H2.out.1.alloc _, H2.out.2.1.alloc _, Blk.new w2 _ _, (H2.out.2.2.2.1.alloc _).drewN _⟩
                clear hV z0 z1 zf0 zf1 yf0 yf1 lt0 lt1 lt2 zx
                have z0 := H3.out.1.pt
                have z1 := H3.out.2.1.pt
                have zf0 := H3.out.2.1.frozen 0
                have zf1 := H3.out.2.1.frozen 1
                have dd := H3.out.2.1.put2 (.int .i64 kc) (Str kh)
                have HDD := Lib.hid dd
                clear dd
                go_wp2_with fail
                have dd := HDD.out
                refine bodyPost_ret (v := .tuple #[.agg #[.int .i64 kc, Str kh], .bool false]) ?_ rfl ⟨by (rw [HE.out]), ?_⟩
                · simp [results, Try.results31, go_sem, dd.1, dd.2]
                · exact (H3.out.2.2.2.setCell (.inr (Nat.le_succ _)) _).setCell (.inr (Nat.le_succ _)) _
              · have HC : Hid (walkF ⟨kc + 1, nextL kc kh x⟩ (prevAt l (k + 1)) (l.drop (k + 1)) = walkF ⟨count, hash⟩ none l) := by
                  show _ = _
                  rw [← HW.out.2.2.2.1, HX.out.2.1, walk_yes _ _ _ _ hs (by intro j hj; rw [hpv] at hj; injection hj with hj; omega)]
                  congr 1
                  simp [prevAt, HX.out.1]
                have hled : decide (x.index ≤ y.index) = false := decide_eq_false hle
                clear hs hpv hy
                go_wp2_with fail
                go_quiet (fail)
                clear q1 q2 q3 q4 hyc
                obtain ⟨V, hV⟩ : ∃ V, V = (w2.alloc (.cells #[.int .i64 (kc + 1), Str (nextL kc kh x)] 57)).drewN nq := ⟨_, rfl⟩
                rw [← hV]
                have H3 : Hid (Blk V w.heap.size 57 #[.int .i64 kc, Str kh] ∧ Blk V (w.heap.size + 1) 57 #[.int .i64 0, Str []] ∧ Blk V w2.heap.size 57 #[.int .i64 (kc + 1), Str (nextL kc kh x)] ∧ Step [] [] w V) := by
                  rw [hV]
                  exact ⟨H2.out.1.alloc _, H2.out.2.1.alloc _, Blk.new w2 _ _, (H2.out.2.2.2.1.alloc _).drewN _⟩
                clear hV z0 z1 zf0 zf1 yf0 yf1 lt0 lt1 lt2 zx
                have z2 := H3.out.2.2.1.pt
                have z0 := H3.out.1.pt
                have zf0 := H3.out.1.frozen 0
                have zf1 := H3.out.1.frozen 1
                go_wp2_with fail
                go_roundw
                case rel =>
                  refine ⟨k + 1, kc + 1, nextL kc kh x, by omega, by go_num, by omega, by have := HW.out.2.2.2.2; omega, by rw [next_len]; omega, ?_, ?_, ?_, ?_, ?_⟩
                  · have := (Blk.set H3.out.1 0 (.int .i64 (kc + 1))).set 1 (Str (nextL kc kh x))
                    simpa using this
                  · exact (H3.out.2.1.far (Nat.succ_ne_self _) _).far (Nat.succ_ne_self _) _
                  · exact (H3.out.2.2.2.setCell (.inr (Nat.le_refl _)) _).setCell (.inr (Nat.le_refl _)) _
                  · exact HC.out
                  · have := HW.out.2.2.2.2; omega
                case measure => simp [intOf]; omega
        · obtain rfl : k = l.length := by omega
          have HE : Hid (walkL ⟨count, hash⟩ l = (⟨kc, kh⟩, true)) := by
            show _ = _
            rw [HB.out, ← HW.out.2.2.2.1, List.drop_length]
            rfl
          have z0 := HW.out.1.pt
          have z1 := HW.out.2.1.pt
          have zf0 := HW.out.2.1.frozen 0
          have zf1 := HW.out.2.1.frozen 1
          have dd := HW.out.2.1.put2 (.int .i64 kc) (Str kh)
          have HDD := Lib.hid dd
          have HLT := Lib.hid (And.intro HW.out.1.lt HW.out.2.1.lt)
          clear dd
          go_wp2_with fail
          have dd := HDD.out
          refine bodyPost_ret (v := .tuple #[.agg #[.int .i64 kc, Str kh], .bool true]) ?_ rfl ⟨by (rw [HE.out]), ?_⟩
          · simp [results, Try.results31, go_sem, dd.1, dd.2]
          · exact (HW.out.2.2.1.setCell (.inr (Nat.le_succ _)) _).setCell (.inr (Nat.le_succ _)) _
    · have h32a : ((hash.length : Int) == 32) = false := by simp; omega
      have h32b : ((hash.length : Int) != 32) = true := by simp; omega
      have HB := Lib.hid (walkL_bad ⟨count, hash⟩ l (by simp [baseOk, h32]))
      clear hn h32
      have z0 := H1.out.1.pt
      have z1 := H1.out.2.1.pt
      have zf0 := H1.out.2.1.frozen 0
      have zf1 := H1.out.2.1.frozen 1
      have dd := H1.out.2.1.put2 (.int .i64 count) (Str hash)
      have HDD := Lib.hid dd
      have HLT := Lib.hid (And.intro H1.out.1.lt H1.out.2.1.lt)
      clear dd
      go_wp2_with fail
      have dd := HDD.out
      refine bodyPost_ret (v := .tuple #[.agg #[.int .i64 count, Str hash], .bool false]) ?_ rfl ⟨by (rw [HB.out]), ?_⟩
      · simp [results, Try.results31, go_sem, dd.1, dd.2]
      · exact (H1.out.2.2.setCell (.inr (Nat.le_succ _)) _).setCell (.inr (Nat.le_succ _)) _
end Go.Proofs.Ytdiacfbflbenoaa
