/-
  EncodeAnswer. Condition: at most 2^21 outs and pairs, 2^40 numbers, ints, texts of at most 2^49 bytes.
-/
import Derived.Test.YtifjnpdnnfdcoaaAnsPlain2
import Derived.Deep.DeepCutAuto
import Derived.Deep.CutBlock
namespace Go.Proofs.Ytifjnpdnnfdcoaa
open Go.RowKit
set_option linter.unusedSimpArgs false
set_option linter.unusedVariables false
set_option maxRecDepth 100000

def wpr (st : WS) (p : Pr) : WS := [p.made, p.rev].foldl wnum ([p.key, p.val].foldl wtext st)
def wot (st : WS) (o : Ot) : WS := wnum (wflag (o.pairs.foldl wpr (wnum st o.pairs.length)) o.more) o.count
def wom (st : WS) (d : Om) : WS := wot st d.o
def wan0 (x : An) : WS := wnum (wflag ([x.client, x.seq, x.err, x.rev].foldl wnum ⟨[], 0⟩) x.yes) x.outs.length
theorem wpr_fold (st : WS) (l : List Pr) : l.foldl wpr st = (l.flatMap prIts).foldl wone st := by
  induction l generalizing st with
  | nil => rfl
  | cons p l ih => rw [List.flatMap_cons, List.foldl_append, List.foldl_cons, ih]; rfl
theorem wot_fold (st : WS) (o : Ot) : wot st o = (otIts o).foldl wone st := by
  rw [otIts, List.foldl_cons, List.foldl_append, ← wpr_fold]
  rfl
theorem wots_fold (st : WS) (l : List Ot) : l.foldl wot st = (l.flatMap otIts).foldl wone st := by
  induction l generalizing st with
  | nil => rfl
  | cons p l ih => rw [List.flatMap_cons, List.foldl_append, List.foldl_cons, ih, wot_fold]
theorem ansIts_tame (x : An) : ∀ y ∈ ansIts x, y.tame := by
  have h1 : ∀ n, (nI n).tame := fun n => Or.inl rfl
  have h2 : ∀ s, (tI s).tame := fun s => Or.inr (Or.inl rfl)
  have h3 : ∀ b, (fI b).tame := fun s => Or.inr (Or.inr rfl)
  intro y hy
  simp only [ansIts, otsIts, otIts, prIts, List.mem_cons, List.mem_append, List.mem_flatMap, List.not_mem_nil, or_false] at hy
  rcases hy with rfl | rfl | rfl | rfl | rfl | (rfl | ⟨o, _, rfl | ⟨p, _, rfl | rfl | rfl | rfl⟩ | rfl | rfl⟩) | rfl
  all_goals first | exact h1 _ | exact h2 _ | exact h3 _
theorem wan_written (x : An) : wbytes (wtext (x.outs.foldl wot (wan0 x)) x.token) = written [] (ansIts x) := by
  rw [← fold_written _ _ (ansIts_tame x), wots_fold]
  simp only [ansIts, otsIts, List.foldl_cons, List.foldl_append, List.foldl_nil]
  rfl
theorem wom_fold (m : List Om) (st : WS) : m.foldl wom st = (m.map (·.o)).foldl wot st := by
  rw [List.foldl_map]
  rfl
def omNums (d : Om) : List Int := otNums d.o
def nL (x : An) (m : List Om) (k : Nat) : List Int := x.rev :: (m.take k).flatMap omNums
theorem nL_all (x : An) (m : List Om) (h : m.map (·.o) = x.outs) : nL x m m.length = numsA x := by
  rw [nL, numsA, List.take_length, ← h, List.flatMap_map]
  rfl
theorem nL_step (x : An) (m : List Om) (k : Nat) (d : Om) (h : m[k]? = some d) : nL x m (k + 1) = nL x m k ++ (d.o.count :: (d.o.pairs.take d.o.pairs.length).flatMap prNums) := by
  rw [nL, nL, fm_take omNums m k d h, List.take_length]
  rfl
theorem nL_le (x : An) (m : List Om) (k : Nat) : (nL x m k).length ≤ (nL x m m.length).length := by
  rw [nL, nL, List.take_length, List.length_cons, List.length_cons]
  have : (m.flatMap omNums) = (m.take k).flatMap omNums ++ (m.drop k).flatMap omNums := by rw [← List.flatMap_append, List.take_append_drop]
  rw [this, List.length_append]
  omega
theorem fm_le (l : List Pr) (j : Nat) : ((l.take j).flatMap prNums).length ≤ (l.flatMap prNums).length := by
  have : (l.flatMap prNums) = (l.take j).flatMap prNums ++ (l.drop j).flatMap prNums := by rw [← List.flatMap_append, List.take_append_drop]
  rw [this, List.length_append]
  omega
theorem nI_le (x : An) (m : List Om) (k j : Nat) (d : Om) (h : m[k]? = some d) : (nL x m k).length + 1 + ((d.o.pairs.take j).flatMap prNums).length ≤ (nL x m m.length).length := by
  have h1 := nL_le x m (k + 1)
  rw [nL_step x m k d h, List.length_append, List.length_cons, List.take_length] at h1
  have h2 := fm_le d.o.pairs j
  omega
theorem row_n {w : World} {a : Option Addr} {n c : Nat} {L : List Int} (h : Row w 1 a n c (intsV L)) : n = L.length := by
  have := h.rd.len
  rw [intsV_len] at this
  omega
def EncAP (x : An) (w : World) (e : Ending) (w' : World) : Prop := e = .returned (.tuple #[Str (encA x).1, .int .i64 (encA x).2]) ∧ Step [] [] w w'
structure EaH (w V : World) (x : An) (m : List Om) (a : Option Addr) : Prop where
  rd : RdO V a m
  outs : m.map (·.o) = x.outs
  st : Step [] [] w V
  bd : AnB x
  nn : (numsA x).length ≤ 1099511627776
  ln : LenA x
theorem EaH.om {w V : World} {x : An} {m : List Om} {a : Option Addr} (h : EaH w V x m a) {k : Nat} {d : Om} (hd : m[k]? = some d) : OtB d.o ∧ d.o.pairs.length ≤ 2097152 ∧ Rd V 4 d.a d.o.pairs.length (prcs d.o.pairs) := by
  have hm := List.mem_of_getElem? hd
  have h1 : d.o ∈ x.outs := by rw [← h.outs]; exact List.mem_map.2 ⟨d, hm, rfl⟩
  exact ⟨h.bd.outs _ h1, h.ln.p _ h1, h.rd.prs _ hm⟩
theorem EaH.len {w V : World} {x : An} {m : List Om} {a : Option Addr} (h : EaH w V x m a) : m.length = x.outs.length ∧ m.length ≤ 2097152 := by
  have : m.length = x.outs.length := by rw [← h.outs, List.length_map]
  exact ⟨this, by have := h.ln.o; omega⟩
set_option maxHeartbeats 4000000 in
theorem encA1_any (n : Int) (w : World) : Calls Try.prog 68 #[.int .i64 n] w fun e w' => e = .returned (.bool (bigN n)) ∧ w = w' := by
  cases h1 : decide (n < 0) with
  | true =>
    have HE : Hid (bigN n = true) := Lib.hid (by simp only [bigN, h1, Bool.true_or])
    go_enter Try.func68, Try.ntmps68
    go_wp2_with fail
    exact bodyPost_ret (results_tmp rfl _ _ _) rfl ⟨by rw [HE.out]; rfl, rfl⟩
  | false =>
    have HE : Hid (bigN n = decide (4611686018427387903 < n)) := Lib.hid (by simp only [bigN, h1, Bool.false_or])
    go_enter Try.func68, Try.ntmps68
    go_wp2_with fail
    exact bodyPost_ret (results_tmp rfl _ _ _) rfl ⟨by rw [HE.out]; rfl, rfl⟩
set_option maxHeartbeats 4000000 in
theorem indexA_any (ns : List Int) (a : Option Addr) (cap : Nat) (w : World) (hr : Rd w 1 a ns.length (intsV ns)) (hl : ns.length ≤ 1099511627776) :
    Calls Try.prog 80 #[.slice a ns.length cap, .func (.func 68) #[] #[]] w fun e w' => (∃ r : Int, e = .returned (.int .i64 r) ∧ decide (0 ≤ r) = ns.any bigN) ∧ w = w' := by
  have HR := Lib.hid hr
  clear hr
  go_enter Try.func80, Try.ntmps80
  go_wp2_with fail
  go_loopw [8] (fun i W => ∃ k : Nat, i = .int .i64 k ∧ k ≤ ns.length ∧ Hid (w = W ∧ (ns.take k).any bigN = false)) (fun i _ => ns.length - (intOf i).toNat)
  case atStart => exact ⟨0, rfl, by omega, rfl, rfl⟩
  case round =>
    rename World => W
    obtain ⟨k, rfl, hk, HW⟩ := hrel
    obtain rfl := HW.out.1
    by_cases hlt : k < ns.length
    · have hlt' : (k : Int) < ns.length := by omega
      obtain ⟨n, hn⟩ : ∃ n, ns[k]? = some n := ⟨_, List.getElem?_eq_getElem hlt⟩
      obtain ⟨g, off, hsa⟩ := HR.out.some_ (by omega)
      subst hsa
      have cn : w.cell? ⟨g, off + k, none⟩ = some (.int .i64 n) := HR.out.cell g off none rfl k _ (by simp [intsV, hn])
      have gl := World.block_lt_of_cell? _ _ cn
      simp only at gl
      have HX := Lib.hid hn
      clear hn
      go_wp2_with fail
      refine (encA1_any n w).mono ?_
      rintro e w2 ⟨rfl, rfl⟩
      cases hb : bigN n with
      | true =>
        have HE : Hid (ns.any bigN = true) := Lib.hid (List.any_eq_true.2 ⟨n, List.mem_of_getElem? HX.out, hb⟩)
        clear hb
        go_wp2_with fail
        exact bodyPost_ret (results_tmp rfl _ _ _) rfl ⟨⟨k, rfl, by rw [HE.out]; exact decide_eq_true (by omega)⟩, rfl⟩
      | false =>
        have HT : Hid ((ns.take (k + 1)).any bigN = false) := Lib.hid (by rw [List.take_add_one, HX.out]; simp only [List.any_append, HW.out.2]; simp [hb])
        clear hb
        go_wp2_with fail
        go_roundw
        case rel => exact ⟨k + 1, by go_num, by omega, trivial, HT.out⟩
        case measure => simp [intOf]; omega
    · obtain rfl : k = ns.length := by omega
      have HE : Hid (ns.any bigN = false) := Lib.hid (by have := HW.out.2; rwa [List.take_length] at this)
      go_wp2_with fail
      exact bodyPost_ret (results_tmp rfl _ _ _) rfl ⟨⟨-1, rfl, by rw [HE.out]; rfl⟩, rfl⟩
set_option maxHeartbeats 4000000 in
theorem containsA_any (ns : List Int) (a : Option Addr) (cap : Nat) (w : World) (hr : Rd w 1 a ns.length (intsV ns)) (hl : ns.length ≤ 1099511627776) :
    Calls Try.prog 67 #[.slice a ns.length cap, .func (.func 68) #[] #[]] w fun e w' => e = .returned (.bool (ns.any bigN)) ∧ w = w' := by
  go_enter Try.func67, Try.ntmps67
  go_wp2_with fail
  refine (indexA_any ns a cap w hr hl).mono ?_
  rintro e w2 ⟨⟨r, rfl, hd⟩, rfl⟩
  have HD := Lib.hid hd
  clear hd
  go_wp2_with fail
  exact bodyPost_ret (results_tmp rfl _ _ _) rfl ⟨by rw [← HD.out]; rfl, rfl⟩
/-- Grow, of no slice. -/
def cright : Nat → Code → Code
  | 0, c => c
  | n + 1, .seq _ b => cright n b
  | _, c => c
section
variable {u0 u1 u2 u3 u4 u5 u6 u7 u8 u9 u10 u11 u12 u13 u14 u15 u16 u17 u18 u19 u20 u21 u22 u23 u24 u25 u26 u27 u28 u29 u30 u31 u32 u33 u34 u35 u36 u37 u38 u39 u40 u41 u42 u43 u44 u45 u46 u47 u48 u49 u50 u51 u52 u53 u54 u55 u56 u57 u58 u59 u60 u61 u62 u63 u64 u65 u66 u67 u68 u69 u70 u71 u72 u73 u74 u75 u76 u77 u78 u79 u80 u81 u82 u83 u84 u85 u86 u87 u88 u89 u90 u91 u92 u93 u94 u95 u96 u97 u98 u99 u100 u101 u102 u103 u104 u105 u106 u107 u108 u109 u110 u111 u112 u113 u114 u115 u116 u117 u118 u119 u120 u121 u122 u123 u124 u125 u126 u127 u128 u129 u130 u131 u132 u133 u134 u135 u136 u137 u138 u139 u140 u141 u142 u143 u144 u145 u146 u147 u148 u149 : Value}
set_option maxHeartbeats 16000000 in
theorem ae10 {w V W : World} {x : An} {m : List Om} {a : Option Addr} {c b : Nat} {p : Nat} {q : WS} (HE : Hid (EaH w V x m a)) (HH : Hid (okHead x = true ∧ (numsA x).any bigN = false)) (HQ : Hid (q = m.foldl wom (wan0 x))) (H : Hid (Ek V W [(b, 64, (anc x (.slice a m.length c)).toArray)] p false q)) :
    Code.wp Try.prog (cright 10 (Try.f23.body.getD .skip)) (bodyPost Try.prog Try.f23 (EncAP x w)) { tmps := #[u0, .pointer (some ⟨b, 0, none⟩), u2, u3, u4, u5, u6, u7, u8, .pointer (some ⟨p, 0, none⟩), u10, u11, u12, u13, u14, u15, u16, u17, u18, u19, u20, u21, u22, u23, u24, u25, u26, u27, u28, u29, u30, u31, u32, u33, u34, u35, u36, u37, u38, u39, u40, u41, u42, u43, u44, u45, u46, u47, u48, u49, u50, u51, u52, u53, u54, u55, u56, u57, u58, u59, u60, u61, u62, u63, u64, u65, u66, u67, u68, u69, u70, u71, u72, u73, u74, u75, u76, u77, u78, u79, u80, u81, u82, u83, u84, u85, u86, u87, u88, u89, u90, u91, u92, u93, u94, u95, u96, u97, u98, u99, u100, u101, u102, u103, u104, u105, u106, u107, u108, u109, u110, u111, u112, u113, u114, u115, u116, u117, u118, u119, u120, u121, u122, u123, u124, u125, u126, u127, u128, u129, u130, u131, u132, u133, u134, u135, u136, u137, u138, u139, u140, u141, u142, u143, u144, u145, u146, u147, u148, u149], defers := [] } W := by
  conv => arg 2; whnf
  dsimp only
  have HTB := Lib.hid HE.out.bd.token
  go_upto_region 33 with fail
  have G1d := Lib.hid (H.out.quiet ((Step.refl [] _).drew))
  refine wp_region_held_drew (S := fun V => Hid (Blk V b 64 (anc x (.slice a m.length c)).toArray)) (by kernel_rfl) (Lib.hid (G1d.out.blk (List.mem_cons_self ..))) (fun hHeld => ?_)
  refine wpAnyH_take (i := 0) (v := ?_) rfl (by kernel_rfl) (by kernel_rfl) (by kernel_rfl) (fun _ _ _ h => h) (Or.inl ⟨by rfl, ?_⟩) hHeld ?_
  rotate_left
  · intro w hSw
    have hSw1 := hSw
    clear hSw
    try dsimp only at hSw1
    go_simp
    try (with_reducible rfl)
  try simp only [Act.put, List.setIfInBounds_toArray, List.set_cons_zero, List.set_cons_succ, List.getElem_toArray, List.getElem_cons_zero, List.getElem_cons_succ]
  refine wpAnyH_take (i := 1) (v := ?_) rfl (by kernel_rfl) (by kernel_rfl) (by kernel_rfl) (fun _ _ _ h => h) (Or.inl ⟨by rfl, ?_⟩) hHeld ?_
  rotate_left
  · intro w hSw
    have hSw1 := hSw
    clear hSw
    try dsimp only at hSw1
    go_simp
    try (with_reducible rfl)
  try simp only [Act.put, List.setIfInBounds_toArray, List.set_cons_zero, List.set_cons_succ, List.getElem_toArray, List.getElem_cons_zero, List.getElem_cons_succ]
  refine wpAnyH_take (i := 2) (v := ?_) rfl (by kernel_rfl) (by kernel_rfl) (by kernel_rfl) (fun _ _ _ h => h) (Or.inl ⟨by rfl, ?_⟩) hHeld ?_
  rotate_left
  · intro w hSw
    have hSw1 := hSw
    clear hSw
    try dsimp only at hSw1
    go_simp
    try (with_reducible rfl)
  try simp only [Act.put, List.setIfInBounds_toArray, List.set_cons_zero, List.set_cons_succ, List.getElem_toArray, List.getElem_cons_zero, List.getElem_cons_succ]
  refine wpAnyH_take (i := 3) (v := ?_) rfl (by kernel_rfl) (by kernel_rfl) (by kernel_rfl) (fun _ _ _ h => h) (Or.inl ⟨by rfl, ?_⟩) hHeld ?_
  rotate_left
  · intro w hSw
    have hSw1 := hSw
    clear hSw
    try dsimp only at hSw1
    go_simp
    try (with_reducible rfl)
  try simp only [Act.put, List.setIfInBounds_toArray, List.set_cons_zero, List.set_cons_succ, List.getElem_toArray, List.getElem_cons_zero, List.getElem_cons_succ]
  refine wpAnyH_take (i := 4) (v := ?_) rfl (by kernel_rfl) (by kernel_rfl) (by kernel_rfl) (fun _ _ _ h => h) (Or.inl ⟨by rfl, ?_⟩) hHeld ?_
  rotate_left
  · intro w hSw
    have hSw1 := hSw
    clear hSw
    have tc := hSw1.out.cell 6
    simp only [anc, List.getElem?_toArray, List.getElem?_cons_zero, List.getElem?_cons_succ] at tc
    have tl := hSw1.out.lt
    go_simp
    try (with_reducible rfl)
  try simp only [Act.put, List.setIfInBounds_toArray, List.set_cons_zero, List.set_cons_succ, List.getElem_toArray, List.getElem_cons_zero, List.getElem_cons_succ]
  refine wpAnyH_ready (rs := [5]) (by kernel_rfl) (by simp) ?_
  refine AllReadyH.cons rfl (fun K hK => ?_) AllReadyH.nil
  go_simp
  refine (ek_text G1d.out x.token HTB.out).mono ?_; rintro e X1 ⟨rfl, t1⟩; have G1 := Lib.hid t1; clear t1
  go_wp2_with fail
  refine hK.out _ _ (Lib.hid (G1.out.blk (List.mem_cons_self ..))) (fun hHeld2 => ?_)
  clear hK K hHeld
  try simp only [Act.put, List.setIfInBounds_toArray, List.set_cons_zero, List.set_cons_succ, List.getElem_toArray, List.getElem_cons_zero, List.getElem_cons_succ]
  refine wpAnyH_done (by kernel_rfl) ?_ _
  go_wp2_with fail
  refine (ek_bytes G1.out).mono ?_
  rintro e Y ⟨rfl, kk⟩
  have HO := Lib.hid (HE.out.st.trans kk)
  clear kk
  have HN : Hid (encA x = wbytes (wtext q x.token)) := Lib.hid (by rw [HQ.out, wom_fold, HE.out.outs, wan_written, encA, if_neg (by rw [HH.out.1]; simp), if_neg (by rw [HH.out.2]; simp)])
  rw [← HN.out]
  go_wp2_with fail
  exact bodyPost_ret (results_tmp2 rfl _ _ _) rfl ⟨rfl, HO.out⟩
set_option maxHeartbeats 16000000 in
theorem ae9 {w V W : World} {x : An} {m : List Om} {a : Option Addr} {c b : Nat} {p : Nat} (HE : Hid (EaH w V x m a)) (HH : Hid (okHead x = true ∧ (numsA x).any bigN = false)) (H : Hid (Ek V W [(b, 64, (anc x (.slice a m.length c)).toArray)] p false (wan0 x))) :
    Code.wp Try.prog (cright 9 (Try.f23.body.getD .skip)) (bodyPost Try.prog Try.f23 (EncAP x w)) { tmps := #[u0, .pointer (some ⟨b, 0, none⟩), u2, u3, u4, u5, u6, u7, u8, .pointer (some ⟨p, 0, none⟩), u10, u11, u12, u13, u14, u15, u16, u17, u18, u19, u20, u21, u22, u23, u24, u25, u26, u27, u28, u29, u30, u31, u32, u33, u34, u35, u36, u37, u38, u39, u40, u41, u42, u43, u44, u45, u46, u47, u48, u49, u50, u51, u52, u53, u54, u55, u56, u57, u58, u59, u60, u61, u62, u63, u64, u65, u66, u67, u68, u69, u70, u71, u72, u73, u74, u75, u76, u77, u78, u79, u80, u81, u82, u83, u84, u85, u86, u87, u88, u89, u90, u91, u92, u93, u94, u95, u96, u97, u98, u99, u100, u101, u102, u103, u104, u105, u106, u107, u108, u109, u110, u111, u112, u113, u114, u115, u116, u117, u118, u119, u120, u121, u122, u123, u124, u125, u126, u127, u128, u129, u130, u131, u132, u133, u134, u135, u136, u137, u138, u139, u140, u141, u142, u143, u144, u145, u146, u147, u148, u149], defers := [] } W := by
  conv => arg 2; whnf
  dsimp only
  have fc := (H.out.blk (List.mem_cons_self ..)).cell
  have f5 := fc 5
  clear fc
  simp only [anc, List.getElem?_toArray, List.getElem?_cons_zero, List.getElem?_cons_succ] at f5
  have fl := (H.out.blk (List.mem_cons_self ..)).lt
  have hml := HE.out.len.2
  go_upto_block 4 with fail
  clear f5 fl
  go_cut [] (fun wx => Hid (Ek V wx [(b, 64, (anc x (.slice a m.length c)).toArray)] p false (m.foldl wom (wan0 x))))
  case first =>
    go_wp2_with fail
    go_loopw [92] (fun i W => ∃ k : Nat, i = .int .i64 k ∧ k ≤ m.length ∧ Hid (Ek V W [(b, 64, (anc x (.slice a m.length c)).toArray)] p false ((m.take k).foldl wom (wan0 x)))) (fun i _ => m.length - (intOf i).toNat)
    case atStart => exact ⟨0, rfl, by omega, Lib.hid (by rw [List.take_zero]; exact H.out)⟩
    case round =>
      clear H
      rename World => W
      obtain ⟨k, rfl, hk, HW⟩ := hrel
      by_cases hlt : k < m.length
      · have hlt' : (k : Int) < m.length := by omega
        obtain ⟨d, hd⟩ : ∃ d, m[k]? = some d := ⟨_, List.getElem?_eq_getElem hlt⟩
        have hrd := HE.out.rd.row.step0 HW.out.out
        obtain ⟨g, off, hsa⟩ := hrd.some_ (by omega)
        rw [hsa] at hrd
        have cd := rd_om hrd hd
        have gl : g < W.heap.size := by have := World.block_lt_of_cell? _ _ cd.1; simpa using this
        have HD := Lib.hid (HE.out.om hd)
        have HTF := Lib.hid (take_foldl wom (wan0 x) m k d hd)
        clear hd hrd
        obtain ⟨q, hq⟩ : ∃ q, q = (m.take k).foldl wom (wan0 x) := ⟨_, rfl⟩
        rw [← hq] at HW HTF
        clear hq
        subst hsa
        go_upto_region 23 with fail
        obtain ⟨ob, hob⟩ : ∃ ob, ob = W.heap.size := ⟨_, rfl⟩
        obtain ⟨W1, hW1⟩ : ∃ W1, W1 = W.alloc (.cells (omc d).toArray 125) := ⟨_, rfl⟩
        have G0 : Hid (Ek V W1 ((ob, 125, (omc d).toArray) :: [(b, 64, (anc x (.slice (some ⟨g, off, none⟩) m.length c)).toArray)]) p false q) := Lib.hid (by rw [hW1, hob]; exact HW.out.push 125 (omc d).toArray)
        rw [show W.alloc (.cells #[.slice d.a d.o.pairs.length d.c, .bool d.o.more, .int .i64 d.o.count] 125) = W1 from hW1.symm, ← hob]
        clear hW1 hob cd gl HW
        have hpl : (d.o.pairs.length : Int) < 9223372036854775808 := by have := HD.out.2.1; omega
        have hpl2 := HD.out.2.1
        have G2d := Lib.hid (G0.out.quiet ((Step.refl [] _).drew))
        refine wp_region_held_drew (S := fun V => Hid (Blk V ob 125 (omc d).toArray)) (by kernel_rfl) (Lib.hid (G2d.out.blk (List.mem_cons_self ..))) (fun hHeld => ?_)
        refine wpAnyH_take (i := 0) (v := ?_) rfl (by kernel_rfl) (by kernel_rfl) (by kernel_rfl) (fun _ _ _ h => h) (Or.inl ⟨by rfl, ?_⟩) hHeld ?_
        rotate_left
        · intro w hSw
          have hSw1 := hSw
          clear hSw
          try dsimp only at hSw1
          go_simp
          try (with_reducible rfl)
        try simp only [Act.put, List.setIfInBounds_toArray, List.set_cons_zero, List.set_cons_succ, List.getElem_toArray, List.getElem_cons_zero, List.getElem_cons_succ]
        refine wpAnyH_take (i := 1) (v := ?_) rfl (by kernel_rfl) (by kernel_rfl) (by kernel_rfl) (fun _ _ _ h => h) (Or.inl ⟨by rfl, ?_⟩) hHeld ?_
        rotate_left
        · intro w hSw
          have hSw1 := hSw
          clear hSw
          try dsimp only at hSw1
          go_simp
          try (with_reducible rfl)
        try simp only [Act.put, List.setIfInBounds_toArray, List.set_cons_zero, List.set_cons_succ, List.getElem_toArray, List.getElem_cons_zero, List.getElem_cons_succ]
        refine wpAnyH_take (i := 2) (v := ?_) rfl (by kernel_rfl) (by kernel_rfl) (by kernel_rfl) (fun _ _ _ h => h) (Or.inl ⟨by rfl, ?_⟩) hHeld ?_
        rotate_left
        · intro w hSw
          have hSw1 := hSw
          clear hSw
          try dsimp only at hSw1
          go_simp
          try (with_reducible rfl)
        try simp only [Act.put, List.setIfInBounds_toArray, List.set_cons_zero, List.set_cons_succ, List.getElem_toArray, List.getElem_cons_zero, List.getElem_cons_succ]
        refine wpAnyH_take (i := 3) (v := ?_) rfl (by kernel_rfl) (by kernel_rfl) (by kernel_rfl) (fun _ _ _ h => h) (Or.inl ⟨by rfl, ?_⟩) hHeld ?_
        rotate_left
        · intro w hSw
          have hSw1 := hSw
          clear hSw
          try dsimp only at hSw1
          go_simp
          try (with_reducible rfl)
        try simp only [Act.put, List.setIfInBounds_toArray, List.set_cons_zero, List.set_cons_succ, List.getElem_toArray, List.getElem_cons_zero, List.getElem_cons_succ]
        refine wpAnyH_take (i := 4) (v := ?_) rfl (by kernel_rfl) (by kernel_rfl) (by kernel_rfl) (fun _ _ _ h => h) (Or.inl ⟨by rfl, ?_⟩) hHeld ?_
        rotate_left
        · intro w hSw
          have hSw1 := hSw
          clear hSw
          have tc := hSw1.out.cell 0
          simp only [omc, List.getElem?_toArray, List.getElem?_cons_zero, List.getElem?_cons_succ] at tc
          have tl := hSw1.out.lt
          go_simp
          try (with_reducible rfl)
        try simp only [Act.put, List.setIfInBounds_toArray, List.set_cons_zero, List.set_cons_succ, List.getElem_toArray, List.getElem_cons_zero, List.getElem_cons_succ]
        refine wpAnyH_take (i := 5) (v := ?_) rfl (by kernel_rfl) (by kernel_rfl) (by kernel_rfl) (fun _ _ _ h => h) (Or.inl ⟨by rfl, ?_⟩) hHeld ?_
        rotate_left
        · intro w hSw
          have hSw1 := hSw
          clear hSw
          try dsimp only at hSw1
          go_simp
          try (with_reducible rfl)
        try simp only [Act.put, List.setIfInBounds_toArray, List.set_cons_zero, List.set_cons_succ, List.getElem_toArray, List.getElem_cons_zero, List.getElem_cons_succ]
        refine wpAnyH_ready (rs := [6]) (by kernel_rfl) (by simp) ?_
        refine AllReadyH.cons rfl (fun K hK => ?_) AllReadyH.nil
        go_simp
        refine (ek_num G2d.out d.o.pairs.length hpl).mono ?_; rintro e X2 ⟨rfl, t2⟩; have G2 := Lib.hid t2; clear t2
        go_wp2_with fail
        refine hK.out _ _ (Lib.hid (G2.out.blk (List.mem_cons_self ..))) (fun hHeld2 => ?_)
        clear hK K hHeld
        try simp only [Act.put, List.setIfInBounds_toArray, List.set_cons_zero, List.set_cons_succ, List.getElem_toArray, List.getElem_cons_zero, List.getElem_cons_succ]
        refine wpAnyH_done (by kernel_rfl) ?_ _
        have fc := (G2.out.blk (List.mem_cons_self ..)).cell
        have f0 := fc 0
        clear fc
        simp only [omc, List.getElem?_toArray, List.getElem?_cons_zero, List.getElem?_cons_succ] at f0
        have fl := (G2.out.blk (List.mem_cons_self ..)).lt
        go_upto_block 6 with fail
        clear f0 fl
        go_cut [] (fun wx => Hid (Ek V wx ((ob, 125, (omc d).toArray) :: [(b, 64, (anc x (.slice (some ⟨g, off, none⟩) m.length c)).toArray)]) p false (d.o.pairs.foldl wpr (wnum q d.o.pairs.length))))
        case first =>
          go_wp2_with fail
          go_loopw [106] (fun i W => ∃ j : Nat, i = .int .i64 j ∧ j ≤ d.o.pairs.length ∧ Hid (Ek V W ((ob, 125, (omc d).toArray) :: [(b, 64, (anc x (.slice (some ⟨g, off, none⟩) m.length c)).toArray)]) p false ((d.o.pairs.take j).foldl wpr (wnum q d.o.pairs.length)))) (fun i _ => d.o.pairs.length - (intOf i).toNat)
          case atStart => exact ⟨0, rfl, by omega, Lib.hid (by rw [List.take_zero]; exact G2.out)⟩
          case round =>
            clear G2
            rename World => Y
            obtain ⟨j, rfl, hj, HY⟩ := hrel
            by_cases hlj : j < d.o.pairs.length
            · have hlj' : (j : Int) < d.o.pairs.length := by omega
              obtain ⟨e, he⟩ : ∃ e, d.o.pairs[j]? = some e := ⟨_, List.getElem?_eq_getElem hlj⟩
              have hrd := HD.out.2.2.step0 HY.out.out
              obtain ⟨g2, off2, hsa⟩ := hrd.some_ (by omega)
              have HSA := Lib.hid hsa
              rw [hsa] at hrd
              have ce := rd_pr hrd he
              have gl : g2 < Y.heap.size := by have := World.block_lt_of_cell? _ _ ce.1; simpa using this
              have HP := Lib.hid (HD.out.1.prs e (List.mem_of_getElem? he))
              have HTE := Lib.hid (take_foldl wpr (wnum q d.o.pairs.length) d.o.pairs j e he)
              clear he hrd
              obtain ⟨r, hr⟩ : ∃ r, r = (d.o.pairs.take j).foldl wpr (wnum q d.o.pairs.length) := ⟨_, rfl⟩
              rw [← hr] at HY HTE
              clear hr
              rw [hsa]
              clear hsa
              go_upto_region 27 with fail
              obtain ⟨pb, hpb⟩ : ∃ pb, pb = Y.heap.size := ⟨_, rfl⟩
              obtain ⟨Y1, hY1⟩ : ∃ Y1, Y1 = Y.alloc (.cells (prc e).toArray 127) := ⟨_, rfl⟩
              have P0 : Hid (Ek V Y1 ((pb, 127, (prc e).toArray) :: ((ob, 125, (omc d).toArray) :: [(b, 64, (anc x (.slice (some ⟨g, off, none⟩) m.length c)).toArray)])) p false r) := Lib.hid (by rw [hY1, hpb]; exact HY.out.push 127 (prc e).toArray)
              rw [show Y.alloc (.cells #[.string ⟨e.key.toArray⟩, .string ⟨e.val.toArray⟩, .int .i64 e.made, .int .i64 e.rev] 127) = Y1 from hY1.symm, ← hpb]
              clear hY1 hpb ce gl HY
              have fc := (P0.out.blk (List.mem_cons_self ..)).cell
              have f0 := fc 0
              have f1 := fc 1
              have f2 := fc 2
              have f3 := fc 3
              clear fc
              simp only [prc, List.getElem?_toArray, List.getElem?_cons_zero, List.getElem?_cons_succ] at f0 f1 f2 f3
              have fl := (P0.out.blk (List.mem_cons_self ..)).lt
              go_wp2_with fail
              refine (ek_texts P0.out [e.key, e.val] (by intro n hn; simp at hn; rcases hn with rfl | rfl; exact HP.out.key; exact HP.out.val) (by simp)).mono ?_
              rintro z Y2 ⟨rfl, t⟩
              have P1 := Lib.hid t
              clear t f0 f1 f2 f3 fl
              have fc := (P1.out.blk (List.mem_cons_self ..)).cell
              have f0 := fc 0
              have f1 := fc 1
              have f2 := fc 2
              have f3 := fc 3
              clear fc
              simp only [prc, List.getElem?_toArray, List.getElem?_cons_zero, List.getElem?_cons_succ] at f0 f1 f2 f3
              have fl := (P1.out.blk (List.mem_cons_self ..)).lt
              go_wp2_with fail
              refine (ek_nums P1.out [e.made, e.rev] (by intro n hn; simp at hn; rcases hn with rfl | rfl; exact HP.out.made; exact HP.out.rev) (by simp)).mono ?_
              rintro z Y3 ⟨rfl, t⟩
              have P2 := Lib.hid t
              clear t f0 f1 f2 f3 fl
              go_wp2_with fail
              go_roundw
              case rel => exact ⟨j + 1, by go_num, by omega, Lib.hid (by rw [HTE.out]; exact P2.out.drop (fun q hq => List.mem_cons_of_mem _ hq))⟩
              case measure => simp [intOf]; omega
            · obtain rfl : j = d.o.pairs.length := by omega
              go_wp2_with fail
              go_meet
              exact Lib.hid (by have := HY.out; rwa [List.take_length] at this)
        case rest =>
          rename World => Y
          have Q0 := hcut
          clear G2
          go_upto_region 30 with fail
          have G3d := Lib.hid (Q0.out.quiet ((Step.refl [] _).drew))
          refine wp_region_held_drew (S := fun V => Hid (Blk V ob 125 (omc d).toArray)) (by kernel_rfl) (Lib.hid (G3d.out.blk (List.mem_cons_self ..))) (fun hHeld => ?_)
          refine wpAnyH_take (i := 0) (v := ?_) rfl (by kernel_rfl) (by kernel_rfl) (by kernel_rfl) (fun _ _ _ h => h) (Or.inl ⟨by rfl, ?_⟩) hHeld ?_
          rotate_left
          · intro w hSw
            have hSw1 := hSw
            clear hSw
            try dsimp only at hSw1
            go_simp
            try (with_reducible rfl)
          try simp only [Act.put, List.setIfInBounds_toArray, List.set_cons_zero, List.set_cons_succ, List.getElem_toArray, List.getElem_cons_zero, List.getElem_cons_succ]
          refine wpAnyH_take (i := 1) (v := ?_) rfl (by kernel_rfl) (by kernel_rfl) (by kernel_rfl) (fun _ _ _ h => h) (Or.inl ⟨by rfl, ?_⟩) hHeld ?_
          rotate_left
          · intro w hSw
            have hSw1 := hSw
            clear hSw
            try dsimp only at hSw1
            go_simp
            try (with_reducible rfl)
          try simp only [Act.put, List.setIfInBounds_toArray, List.set_cons_zero, List.set_cons_succ, List.getElem_toArray, List.getElem_cons_zero, List.getElem_cons_succ]
          refine wpAnyH_take (i := 2) (v := ?_) rfl (by kernel_rfl) (by kernel_rfl) (by kernel_rfl) (fun _ _ _ h => h) (Or.inl ⟨by rfl, ?_⟩) hHeld ?_
          rotate_left
          · intro w hSw
            have hSw1 := hSw
            clear hSw
            try dsimp only at hSw1
            go_simp
            try (with_reducible rfl)
          try simp only [Act.put, List.setIfInBounds_toArray, List.set_cons_zero, List.set_cons_succ, List.getElem_toArray, List.getElem_cons_zero, List.getElem_cons_succ]
          refine wpAnyH_take (i := 3) (v := ?_) rfl (by kernel_rfl) (by kernel_rfl) (by kernel_rfl) (fun _ _ _ h => h) (Or.inl ⟨by rfl, ?_⟩) hHeld ?_
          rotate_left
          · intro w hSw
            have hSw1 := hSw
            clear hSw
            try dsimp only at hSw1
            go_simp
            try (with_reducible rfl)
          try simp only [Act.put, List.setIfInBounds_toArray, List.set_cons_zero, List.set_cons_succ, List.getElem_toArray, List.getElem_cons_zero, List.getElem_cons_succ]
          refine wpAnyH_take (i := 4) (v := ?_) rfl (by kernel_rfl) (by kernel_rfl) (by kernel_rfl) (fun _ _ _ h => h) (Or.inl ⟨by rfl, ?_⟩) hHeld ?_
          rotate_left
          · intro w hSw
            have hSw1 := hSw
            clear hSw
            have tc := hSw1.out.cell 1
            simp only [omc, List.getElem?_toArray, List.getElem?_cons_zero, List.getElem?_cons_succ] at tc
            have tl := hSw1.out.lt
            go_simp
            try (with_reducible rfl)
          try simp only [Act.put, List.setIfInBounds_toArray, List.set_cons_zero, List.set_cons_succ, List.getElem_toArray, List.getElem_cons_zero, List.getElem_cons_succ]
          refine wpAnyH_ready (rs := [5]) (by kernel_rfl) (by simp) ?_
          refine AllReadyH.cons rfl (fun K hK => ?_) AllReadyH.nil
          go_simp
          refine (ek_flag G3d.out d.o.more).mono ?_; rintro e X3 ⟨rfl, t3⟩; have G3 := Lib.hid t3; clear t3
          go_wp2_with fail
          refine hK.out _ _ (Lib.hid (G3.out.blk (List.mem_cons_self ..))) (fun hHeld2 => ?_)
          clear hK K hHeld
          try simp only [Act.put, List.setIfInBounds_toArray, List.set_cons_zero, List.set_cons_succ, List.getElem_toArray, List.getElem_cons_zero, List.getElem_cons_succ]
          refine wpAnyH_done (by kernel_rfl) ?_ _
          go_upto_region 31 with fail
          have G4d := Lib.hid (G3.out.quiet ((Step.refl [] _).drew))
          refine wp_region_held_drew (S := fun V => Hid (Blk V ob 125 (omc d).toArray)) (by kernel_rfl) (Lib.hid (G4d.out.blk (List.mem_cons_self ..))) (fun hHeld => ?_)
          refine wpAnyH_take (i := 0) (v := ?_) rfl (by kernel_rfl) (by kernel_rfl) (by kernel_rfl) (fun _ _ _ h => h) (Or.inl ⟨by rfl, ?_⟩) hHeld ?_
          rotate_left
          · intro w hSw
            have hSw1 := hSw
            clear hSw
            try dsimp only at hSw1
            go_simp
            try (with_reducible rfl)
          try simp only [Act.put, List.setIfInBounds_toArray, List.set_cons_zero, List.set_cons_succ, List.getElem_toArray, List.getElem_cons_zero, List.getElem_cons_succ]
          refine wpAnyH_take (i := 1) (v := ?_) rfl (by kernel_rfl) (by kernel_rfl) (by kernel_rfl) (fun _ _ _ h => h) (Or.inl ⟨by rfl, ?_⟩) hHeld ?_
          rotate_left
          · intro w hSw
            have hSw1 := hSw
            clear hSw
            try dsimp only at hSw1
            go_simp
            try (with_reducible rfl)
          try simp only [Act.put, List.setIfInBounds_toArray, List.set_cons_zero, List.set_cons_succ, List.getElem_toArray, List.getElem_cons_zero, List.getElem_cons_succ]
          refine wpAnyH_take (i := 2) (v := ?_) rfl (by kernel_rfl) (by kernel_rfl) (by kernel_rfl) (fun _ _ _ h => h) (Or.inl ⟨by rfl, ?_⟩) hHeld ?_
          rotate_left
          · intro w hSw
            have hSw1 := hSw
            clear hSw
            try dsimp only at hSw1
            go_simp
            try (with_reducible rfl)
          try simp only [Act.put, List.setIfInBounds_toArray, List.set_cons_zero, List.set_cons_succ, List.getElem_toArray, List.getElem_cons_zero, List.getElem_cons_succ]
          refine wpAnyH_take (i := 3) (v := ?_) rfl (by kernel_rfl) (by kernel_rfl) (by kernel_rfl) (fun _ _ _ h => h) (Or.inl ⟨by rfl, ?_⟩) hHeld ?_
          rotate_left
          · intro w hSw
            have hSw1 := hSw
            clear hSw
            try dsimp only at hSw1
            go_simp
            try (with_reducible rfl)
          try simp only [Act.put, List.setIfInBounds_toArray, List.set_cons_zero, List.set_cons_succ, List.getElem_toArray, List.getElem_cons_zero, List.getElem_cons_succ]
          refine wpAnyH_take (i := 4) (v := ?_) rfl (by kernel_rfl) (by kernel_rfl) (by kernel_rfl) (fun _ _ _ h => h) (Or.inl ⟨by rfl, ?_⟩) hHeld ?_
          rotate_left
          · intro w hSw
            have hSw1 := hSw
            clear hSw
            have tc := hSw1.out.cell 2
            simp only [omc, List.getElem?_toArray, List.getElem?_cons_zero, List.getElem?_cons_succ] at tc
            have tl := hSw1.out.lt
            go_simp
            try (with_reducible rfl)
          try simp only [Act.put, List.setIfInBounds_toArray, List.set_cons_zero, List.set_cons_succ, List.getElem_toArray, List.getElem_cons_zero, List.getElem_cons_succ]
          refine wpAnyH_ready (rs := [5]) (by kernel_rfl) (by simp) ?_
          refine AllReadyH.cons rfl (fun K hK => ?_) AllReadyH.nil
          go_simp
          refine (ek_num G4d.out d.o.count HD.out.1.count).mono ?_; rintro e X4 ⟨rfl, t4⟩; have G4 := Lib.hid t4; clear t4
          go_wp2_with fail
          refine hK.out _ _ (Lib.hid (G4.out.blk (List.mem_cons_self ..))) (fun hHeld2 => ?_)
          clear hK K hHeld
          try simp only [Act.put, List.setIfInBounds_toArray, List.set_cons_zero, List.set_cons_succ, List.getElem_toArray, List.getElem_cons_zero, List.getElem_cons_succ]
          refine wpAnyH_done (by kernel_rfl) ?_ _
          go_wp2_with fail
          go_roundw
          case rel => exact ⟨k + 1, by go_num, by omega, Lib.hid (by rw [HTF.out]; exact G4.out.drop (fun q hq => List.mem_cons_of_mem _ hq))⟩
          case measure => simp [intOf]; omega
      · obtain rfl : k = m.length := by omega
        go_wp2_with fail
        go_meet
        exact Lib.hid (by have := HW.out; rwa [List.take_length] at this)
  case rest =>
    rename World => Y
    have Q0 := hcut
    rename ∀ (a : Act) (w : World), Code.wp _ _ _ a w → _ => hK
    refine hK _ _ ?_
    exact ae10 HE HH (Lib.hid rfl) Q0
set_option maxHeartbeats 16000000 in
theorem ae4 {w V W : World} {x : An} {m : List Om} {a : Option Addr} {c b : Nat} {bb : Option Addr} {cc : Nat} (HE : Hid (EaH w V x m a)) (HH : Hid (okHead x = true)) (H : Hid (Row W 1 bb (numsA x).length cc (intsV (numsA x)) ∧ Blk W b 64 (anc x (.slice a m.length c)).toArray ∧ Step [] (blks bb) V W)) :
    Code.wp Try.prog (cright 4 (Try.f23.body.getD .skip)) (bodyPost Try.prog Try.f23 (EncAP x w)) { tmps := #[u0, .pointer (some ⟨b, 0, none⟩), u2, u3, .slice bb (numsA x).length cc, u5, u6, u7, u8, u9, u10, u11, u12, u13, u14, u15, u16, u17, u18, u19, u20, u21, u22, u23, u24, u25, u26, u27, u28, u29, u30, u31, u32, u33, u34, u35, u36, u37, u38, u39, u40, u41, u42, u43, u44, u45, u46, u47, u48, u49, u50, u51, u52, u53, u54, u55, u56, u57, u58, u59, u60, u61, u62, u63, u64, u65, u66, u67, u68, u69, u70, u71, u72, u73, u74, u75, u76, u77, u78, u79, u80, u81, u82, u83, u84, u85, u86, u87, u88, u89, u90, u91, u92, u93, u94, u95, u96, u97, u98, u99, u100, u101, u102, u103, u104, u105, u106, u107, u108, u109, u110, u111, u112, u113, u114, u115, u116, u117, u118, u119, u120, u121, u122, u123, u124, u125, u126, u127, u128, u129, u130, u131, u132, u133, u134, u135, u136, u137, u138, u139, u140, u141, u142, u143, u144, u145, u146, u147, u148, u149], defers := [] } W := by
  conv => arg 2; whnf
  dsimp only
  have HC := containsA_any (numsA x) bb cc W H.out.1.rd HE.out.nn
  go_wp2_with fail
  refine HC.mono ?_
  rintro e W9 ⟨rfl, rfl⟩
  clear HC
  have HS := Lib.hid (HE.out.st.trans (H.out.2.2.drop (S'' := []) (by simp)))
  cases hw : (numsA x).any bigN with
  | true =>
    have HN : Hid (encA x = ([], 1)) := Lib.hid (by rw [encA, if_neg (by rw [HH.out]; simp), if_pos hw])
    clear hw
    go_wp2_with fail
    exact bodyPost_ret (results_tmp2 rfl _ _ _) rfl ⟨by rw [HN.out]; rfl, HS.out⟩
  | false =>
    have HH2 : Hid (okHead x = true ∧ (numsA x).any bigN = false) := Lib.hid ⟨HH.out, hw⟩
    clear hw
    go_upto_region 17 with fail
    obtain ⟨p, hp⟩ : ∃ b, b = W.heap.size := ⟨_, rfl⟩
    obtain ⟨V2, hV2⟩ : ∃ V2, V2 = W.alloc (.cells #[.slice none 0 0, .int .i64 0, .bool false] 93) := ⟨_, rfl⟩
    have G0 : Hid (Ek V V2 [(b, 64, (anc x (.slice a m.length c)).toArray)] p false ⟨[], 0⟩) := by
      rw [hV2, hp]
      refine ⟨[W.heap.size], ⟨none, 0, Blk.new _ _ _, Row.none _ 1, by simp [blks], rfl, by simp⟩, ((H.out.2.2.drop (S'' := []) (by simp)).hold _).drop (by simp), fun q hq => ?_⟩
      simp at hq
      subst hq
      exact ⟨H.out.2.1.alloc _, by have := H.out.2.1.lt; simp; omega⟩
    rw [← hV2, ← hp]
    clear hV2 hp H
    have fc := (G0.out.blk (List.mem_cons_self ..)).cell
    have f0 := fc 0
    have f1 := fc 1
    have f2 := fc 2
    have f3 := fc 3
    clear fc
    simp only [anc, List.getElem?_toArray, List.getElem?_cons_zero, List.getElem?_cons_succ] at f0 f1 f2 f3
    have fl := (G0.out.blk (List.mem_cons_self ..)).lt
    have HB := Lib.hid HE.out.bd
    go_wp2_with fail
    refine (ek_nums G0.out [x.client, x.seq, x.err, x.rev] (by intro n hn; simp at hn; rcases hn with rfl | rfl | rfl | rfl; exact HB.out.client; exact HB.out.seq; exact HB.out.err; exact HB.out.rev) (by simp)).mono ?_
    rintro e X ⟨rfl, t⟩
    have G1 := Lib.hid t
    clear t G0 f0 f1 f2 f3 fl
    go_upto_region 18 with fail
    have G5d := Lib.hid (G1.out.quiet ((Step.refl [] _).drew))
    refine wp_region_held_drew (S := fun V => Hid (Blk V b 64 (anc x (.slice a m.length c)).toArray)) (by kernel_rfl) (Lib.hid (G5d.out.blk (List.mem_cons_self ..))) (fun hHeld => ?_)
    refine wpAnyH_take (i := 0) (v := ?_) rfl (by kernel_rfl) (by kernel_rfl) (by kernel_rfl) (fun _ _ _ h => h) (Or.inl ⟨by rfl, ?_⟩) hHeld ?_
    rotate_left
    · intro w hSw
      have hSw1 := hSw
      clear hSw
      try dsimp only at hSw1
      go_simp
      try (with_reducible rfl)
    try simp only [Act.put, List.setIfInBounds_toArray, List.set_cons_zero, List.set_cons_succ, List.getElem_toArray, List.getElem_cons_zero, List.getElem_cons_succ]
    refine wpAnyH_take (i := 1) (v := ?_) rfl (by kernel_rfl) (by kernel_rfl) (by kernel_rfl) (fun _ _ _ h => h) (Or.inl ⟨by rfl, ?_⟩) hHeld ?_
    rotate_left
    · intro w hSw
      have hSw1 := hSw
      clear hSw
      try dsimp only at hSw1
      go_simp
      try (with_reducible rfl)
    try simp only [Act.put, List.setIfInBounds_toArray, List.set_cons_zero, List.set_cons_succ, List.getElem_toArray, List.getElem_cons_zero, List.getElem_cons_succ]
    refine wpAnyH_take (i := 2) (v := ?_) rfl (by kernel_rfl) (by kernel_rfl) (by kernel_rfl) (fun _ _ _ h => h) (Or.inl ⟨by rfl, ?_⟩) hHeld ?_
    rotate_left
    · intro w hSw
      have hSw1 := hSw
      clear hSw
      try dsimp only at hSw1
      go_simp
      try (with_reducible rfl)
    try simp only [Act.put, List.setIfInBounds_toArray, List.set_cons_zero, List.set_cons_succ, List.getElem_toArray, List.getElem_cons_zero, List.getElem_cons_succ]
    refine wpAnyH_take (i := 3) (v := ?_) rfl (by kernel_rfl) (by kernel_rfl) (by kernel_rfl) (fun _ _ _ h => h) (Or.inl ⟨by rfl, ?_⟩) hHeld ?_
    rotate_left
    · intro w hSw
      have hSw1 := hSw
      clear hSw
      try dsimp only at hSw1
      go_simp
      try (with_reducible rfl)
    try simp only [Act.put, List.setIfInBounds_toArray, List.set_cons_zero, List.set_cons_succ, List.getElem_toArray, List.getElem_cons_zero, List.getElem_cons_succ]
    refine wpAnyH_take (i := 4) (v := ?_) rfl (by kernel_rfl) (by kernel_rfl) (by kernel_rfl) (fun _ _ _ h => h) (Or.inl ⟨by rfl, ?_⟩) hHeld ?_
    rotate_left
    · intro w hSw
      have hSw1 := hSw
      clear hSw
      have tc := hSw1.out.cell 4
      simp only [anc, List.getElem?_toArray, List.getElem?_cons_zero, List.getElem?_cons_succ] at tc
      have tl := hSw1.out.lt
      go_simp
      try (with_reducible rfl)
    try simp only [Act.put, List.setIfInBounds_toArray, List.set_cons_zero, List.set_cons_succ, List.getElem_toArray, List.getElem_cons_zero, List.getElem_cons_succ]
    refine wpAnyH_ready (rs := [5]) (by kernel_rfl) (by simp) ?_
    refine AllReadyH.cons rfl (fun K hK => ?_) AllReadyH.nil
    go_simp
    refine (ek_flag G5d.out x.yes).mono ?_; rintro e X5 ⟨rfl, t5⟩; have G5 := Lib.hid t5; clear t5
    go_wp2_with fail
    refine hK.out _ _ (Lib.hid (G5.out.blk (List.mem_cons_self ..))) (fun hHeld2 => ?_)
    clear hK K hHeld
    try simp only [Act.put, List.setIfInBounds_toArray, List.set_cons_zero, List.set_cons_succ, List.getElem_toArray, List.getElem_cons_zero, List.getElem_cons_succ]
    refine wpAnyH_done (by kernel_rfl) ?_ _
    have HL := Lib.hid HE.out.len.1
    have hln : (m.length : Int) < 9223372036854775808 := by have := HE.out.len; omega
    go_upto_region 19 with fail
    go_cut [] (fun wx => Hid (Ek V wx [(b, 64, (anc x (.slice a m.length c)).toArray)] p false (wan0 x)))
    case first =>
      have G6d := Lib.hid (G5.out.quiet ((Step.refl [] _).drew))
      refine wp_region_held_drew (S := fun V => Hid (Blk V b 64 (anc x (.slice a m.length c)).toArray)) (by kernel_rfl) (Lib.hid (G6d.out.blk (List.mem_cons_self ..))) (fun hHeld => ?_)
      refine wpAnyH_take (i := 0) (v := ?_) rfl (by kernel_rfl) (by kernel_rfl) (by kernel_rfl) (fun _ _ _ h => h) (Or.inl ⟨by rfl, ?_⟩) hHeld ?_
      rotate_left
      · intro w hSw
        have hSw1 := hSw
        clear hSw
        try dsimp only at hSw1
        go_simp
        try (with_reducible rfl)
      try simp only [Act.put, List.setIfInBounds_toArray, List.set_cons_zero, List.set_cons_succ, List.getElem_toArray, List.getElem_cons_zero, List.getElem_cons_succ]
      refine wpAnyH_take (i := 1) (v := ?_) rfl (by kernel_rfl) (by kernel_rfl) (by kernel_rfl) (fun _ _ _ h => h) (Or.inl ⟨by rfl, ?_⟩) hHeld ?_
      rotate_left
      · intro w hSw
        have hSw1 := hSw
        clear hSw
        try dsimp only at hSw1
        go_simp
        try (with_reducible rfl)
      try simp only [Act.put, List.setIfInBounds_toArray, List.set_cons_zero, List.set_cons_succ, List.getElem_toArray, List.getElem_cons_zero, List.getElem_cons_succ]
      refine wpAnyH_take (i := 2) (v := ?_) rfl (by kernel_rfl) (by kernel_rfl) (by kernel_rfl) (fun _ _ _ h => h) (Or.inl ⟨by rfl, ?_⟩) hHeld ?_
      rotate_left
      · intro w hSw
        have hSw1 := hSw
        clear hSw
        try dsimp only at hSw1
        go_simp
        try (with_reducible rfl)
      try simp only [Act.put, List.setIfInBounds_toArray, List.set_cons_zero, List.set_cons_succ, List.getElem_toArray, List.getElem_cons_zero, List.getElem_cons_succ]
      refine wpAnyH_take (i := 3) (v := ?_) rfl (by kernel_rfl) (by kernel_rfl) (by kernel_rfl) (fun _ _ _ h => h) (Or.inl ⟨by rfl, ?_⟩) hHeld ?_
      rotate_left
      · intro w hSw
        have hSw1 := hSw
        clear hSw
        try dsimp only at hSw1
        go_simp
        try (with_reducible rfl)
      try simp only [Act.put, List.setIfInBounds_toArray, List.set_cons_zero, List.set_cons_succ, List.getElem_toArray, List.getElem_cons_zero, List.getElem_cons_succ]
      refine wpAnyH_take (i := 4) (v := ?_) rfl (by kernel_rfl) (by kernel_rfl) (by kernel_rfl) (fun _ _ _ h => h) (Or.inl ⟨by rfl, ?_⟩) hHeld ?_
      rotate_left
      · intro w hSw
        have hSw1 := hSw
        clear hSw
        have tc := hSw1.out.cell 5
        simp only [anc, List.getElem?_toArray, List.getElem?_cons_zero, List.getElem?_cons_succ] at tc
        have tl := hSw1.out.lt
        go_simp
        try (with_reducible rfl)
      try simp only [Act.put, List.setIfInBounds_toArray, List.set_cons_zero, List.set_cons_succ, List.getElem_toArray, List.getElem_cons_zero, List.getElem_cons_succ]
      refine wpAnyH_take (i := 5) (v := ?_) rfl (by kernel_rfl) (by kernel_rfl) (by kernel_rfl) (fun _ _ _ h => h) (Or.inl ⟨by rfl, ?_⟩) hHeld ?_
      rotate_left
      · intro w hSw
        have hSw1 := hSw
        clear hSw
        try dsimp only at hSw1
        go_simp
        try (with_reducible rfl)
      try simp only [Act.put, List.setIfInBounds_toArray, List.set_cons_zero, List.set_cons_succ, List.getElem_toArray, List.getElem_cons_zero, List.getElem_cons_succ]
      refine wpAnyH_ready (rs := [6]) (by kernel_rfl) (by simp) ?_
      refine AllReadyH.cons rfl (fun K hK => ?_) AllReadyH.nil
      go_simp
      refine (ek_num G6d.out m.length hln).mono ?_; rintro e X6 ⟨rfl, t6⟩; have G6 := Lib.hid t6; clear t6
      go_wp2_with fail
      refine hK.out _ _ (Lib.hid (G6.out.blk (List.mem_cons_self ..))) (fun hHeld2 => ?_)
      clear hK K hHeld
      try simp only [Act.put, List.setIfInBounds_toArray, List.set_cons_zero, List.set_cons_succ, List.getElem_toArray, List.getElem_cons_zero, List.getElem_cons_succ]
      refine wpAnyH_done (by kernel_rfl) ?_ _
      go_wp2_with fail
      go_meet
      exact Lib.hid (by rw [show wan0 x = wnum (wflag ([x.client, x.seq, x.err, x.rev].foldl wnum ⟨[], 0⟩) x.yes) m.length by rw [wan0, HL.out]]; exact G6.out)
    case rest =>
      rename World => Y
      have Q0 := hcut
      rename ∀ (a : Act) (w : World), Code.wp _ _ _ a w → _ => hK
      refine hK _ _ ?_
      exact ae9 HE HH2 Q0
end
set_option maxHeartbeats 16000000 in
theorem encodeA_any (x : An) (m : List Om) (a : Option Addr) (c : Nat) (w : World) (hr : RdO w a m) (ho : m.map (·.o) = x.outs) (hB : AnB x) (hL : LenA x) (hN : (numsA x).length ≤ 1099511627776) : Calls Try.prog 23 #[anV x (.slice a m.length c)] w (EncAP x w) := by
  have H00 : Hid (EaH w (w.alloc (.cells (anc x (.slice a m.length c)).toArray 64)) x m a ∧ Blk (w.alloc (.cells (anc x (.slice a m.length c)).toArray 64)) w.heap.size 64 (anc x (.slice a m.length c)).toArray) := Lib.hid ⟨⟨hr.step ((Step.refl [] w).alloc _), ho, (Step.refl [] w).alloc _, hB, hN, hL⟩, Blk.new w _ _⟩
  clear hr ho hB hN hL
  obtain ⟨i0, hi, hz0, hz1, hz2⟩ := info_parts Try.info_int
  have HI := Lib.hid (And.intro hi (And.intro hz0 (And.intro hz1 hz2)))
  clear hi hz0 hz1 hz2
  go_enter Try.func23, Try.ntmps23
  go_upto_region 1 with fail
  change Code.wp _ _ _ _ (w.alloc (.cells (anc x (.slice a m.length c)).toArray 64))
  obtain ⟨b, hb⟩ : ∃ b, b = w.heap.size := ⟨_, rfl⟩
  obtain ⟨V, hV⟩ : ∃ V, V = (w.alloc (.cells (anc x (.slice a m.length c)).toArray 64)) := ⟨_, rfl⟩
  rw [← hV, ← hb] at H00
  rw [← hV]
  try rw [← hb]
  have HE := Lib.hid H00.out.1
  have HB := Lib.hid H00.out.2
  clear hV hb H00
  have fc := HB.out.cell
  have f0 := fc 0
  have f1 := fc 1
  have f2 := fc 2
  have f3 := fc 3
  have f4 := fc 4
  have f5 := fc 5
  have f6 := fc 6
  clear fc
  simp only [anc, List.getElem?_toArray, List.getElem?_cons_zero, List.getElem?_cons_succ] at f0 f1 f2 f3 f4 f5 f6
  have fl := HB.out.lt
  go_wp2_with fail
  refine (ids_any x.client x.seq V).mono ?_
  rintro e V0 ⟨rfl, rfl⟩
  cases hid : okIds x.client x.seq with
  | false =>
    have HN : Hid (encA x = ([], 1)) := Lib.hid (by rw [encA, if_pos (by simp [okHead, hid])])
    clear hid
    go_wp2_with fail
    exact bodyPost_ret (results_tmp2 rfl _ _ _) rfl ⟨by rw [HN.out]; rfl, HE.out.st⟩
  | true =>
    by_cases e0 : x.err < 0
    · have e0d : decide (x.err < 0) = true := decide_eq_true e0
      have HN : Hid (encA x = ([], 1)) := Lib.hid (by rw [encA, if_pos (by simp [okHead, e0])])
      clear hid e0
      go_wp2_with fail
      exact bodyPost_ret (results_tmp2 rfl _ _ _) rfl ⟨by rw [HN.out]; rfl, HE.out.st⟩
    · have e0d : decide (x.err < 0) = false := decide_eq_false e0
      by_cases e1 : (255 : Int) < x.err
      · have e1d : decide ((255 : Int) < x.err) = true := decide_eq_true e1
        have HN : Hid (encA x = ([], 1)) := Lib.hid (by rw [encA, if_pos (by simp [okHead, e1])])
        clear hid e0 e1
        go_wp2_with fail
        exact bodyPost_ret (results_tmp2 rfl _ _ _) rfl ⟨by rw [HN.out]; rfl, HE.out.st⟩
      · have e1d : decide ((255 : Int) < x.err) = false := decide_eq_false e1
        have HH : Hid (okHead x = true) := Lib.hid (by simp [okHead, hid, e0, e1])
        clear hid e0 e1
        go_upto_region 4 with fail
        clear e0d e1d f0 f1 f2 f3 f4 f5 f6 fl
        obtain ⟨g0, hg0⟩ : ∃ g, g = V.heap.size := ⟨_, rfl⟩
        obtain ⟨V1, hV1⟩ : ∃ V1, V1 = V.alloc (.cells #[.int .i64 x.rev] 3) := ⟨_, rfl⟩
        have H1 : Hid (Row V1 1 (some ⟨g0, 0, none⟩) 1 1 (intsV (nL x m 0)) ∧ Step [] [g0] V V1) := by
          rw [hV1, hg0]
          exact ⟨row_blk' (xs := intsV [x.rev]) (Blk.new V 3 _) 1 1 rfl (by unfold maxLen; omega), ((Step.refl [] V).hold _).drop (by simp)⟩
        rw [← hV1, ← hg0]
        clear hV1 hg0
        have hml := HE.out.len.2
        have HB1 := Lib.hid (HB.out.step H1.out.2 (by simp))
        have fc := HB1.out.cell
        have f5 := fc 5
        clear fc
        simp only [anc, List.getElem?_toArray, List.getElem?_cons_zero, List.getElem?_cons_succ] at f5
        have fl := HB1.out.lt
        go_upto_block 0 with fail
        clear f5 fl
        go_cut [4] (fun v wx => ∃ (bb : Option Addr) (cc : Nat), v = .slice bb (numsA x).length cc ∧ Hid (Row wx 1 bb (numsA x).length cc (intsV (numsA x)) ∧ Blk wx b 64 (anc x (.slice a m.length c)).toArray ∧ Step [] (blks bb) V wx))
        case first =>
          go_wp2_with fail
          go_loopw [4, 36] (fun s i W => ∃ (k n : Nat) (bb : Option Addr) (cc : Nat), i = .int .i64 k ∧ k ≤ m.length ∧ s = .slice bb n cc ∧ Hid (Row W 1 bb n cc (intsV (nL x m k)) ∧ Step [] (blks bb) V W)) (fun _ i _ => m.length - (intOf i).toNat)
          case atStart => exact ⟨0, 1, some ⟨g0, 0, none⟩, 1, rfl, by omega, rfl, H1.out.1, by simpa [blks] using H1.out.2⟩
          case round =>
            clear H1 HB1
            rename World => W
            obtain ⟨k, n, bb, cc, rfl, hk, rfl, HW⟩ := hrel
            by_cases hlt : k < m.length
            · have hlt' : (k : Int) < m.length := by omega
              obtain ⟨d, hd⟩ : ∃ d, m[k]? = some d := ⟨_, List.getElem?_eq_getElem hlt⟩
              have hrd := HE.out.rd.row.step0 HW.out.2
              obtain ⟨g, off, hsa⟩ := hrd.some_ (by omega)
              rw [hsa] at hrd
              have cd := rd_om hrd hd
              have gl : g < W.heap.size := by have := World.block_lt_of_cell? _ _ cd.1; simpa using this
              have HD := Lib.hid (HE.out.om hd)
              have HX := Lib.hid hd
              have hnn : n + 1 + 2 * d.o.pairs.length ≤ 1099511627776 := by
                have h1 := row_n HW.out.1
                have h2 := nI_le x m k d.o.pairs.length d hd
                rw [List.take_length, fm_len prNums (fun _ => rfl), nL_all x m HE.out.outs] at h2
                have h3 := HE.out.nn
                omega
              clear hd hrd
              have hpl2 := HD.out.2.1
              have HSA := Lib.hid hsa
              rw [hsa]
              clear hsa
              go_upto_region 7 with fail
              obtain ⟨ob, hob⟩ : ∃ ob, ob = W.heap.size := ⟨_, rfl⟩
              obtain ⟨W1, hW1⟩ : ∃ W1, W1 = W.alloc (.cells (omc d).toArray 125) := ⟨_, rfl⟩
              obtain ⟨eb, heb⟩ : ∃ eb, eb = W1.heap.size := ⟨_, rfl⟩
              obtain ⟨W2, hW2⟩ : ∃ W2, W2 = W1.alloc (.cells #[.int .i64 d.o.count] 3) := ⟨_, rfl⟩
              have HO1 : Hid (Blk W1 ob 125 (omc d).toArray) := Lib.hid (by rw [hW1, hob]; exact Blk.new _ _ _)
              have H2 : Hid (Row W2 1 bb n cc (intsV (nL x m k)) ∧ Step [] (blks bb) V W2 ∧ Rd W2 1 (some ⟨eb, 0, none⟩) 1 (intsV [d.o.count]) ∧ Blk W2 ob 125 (omc d).toArray ∧ ob ∉ blks bb) := by
                refine ⟨by rw [hW2, hW1]; exact (HW.out.1.alloc _).alloc _, by rw [hW2, hW1]; exact (HW.out.2.alloc _).alloc _, by rw [hW2, heb]; exact rd_blk' (xs := intsV [d.o.count]) (Blk.new _ 3 _) 1 1 rfl, by rw [hW2]; exact HO1.out.alloc _, fun hm => by have := HW.out.1.lt ob hm; omega⟩
              rw [show W.alloc (.cells #[.slice d.a d.o.pairs.length d.c, .bool d.o.more, .int .i64 d.o.count] 125) = W1 from hW1.symm, ← hob]
              have HW2 := Lib.hid hW2
              have HEB := Lib.hid heb
              clear hW1 hob hW2 heb cd gl HW
              have fc := HO1.out.cell
              have f0 := fc 0
              have f2 := fc 2
              clear fc
              simp only [omc, List.getElem?_toArray, List.getElem?_cons_zero, List.getElem?_cons_succ] at f0 f2
              have fl := HO1.out.lt
              go_upto_region 8 with (at_builtin; rw [show W1.alloc (.cells #[.int .i64 d.o.count] 3) = W2 from HW2.out.symm, show W1.heap.size = eb from HEB.out.symm]; refine wpList_append_row rfl (.tmp 40) (.tmp 43) 128 128 rfl 3 i0 _ 1 8 Try.underlying128 HI.out.1 HI.out.2.1 HI.out.2.2.1 HI.out.2.2.2 rfl rfl H2.out.1 rfl (Src.rd 128 3 Try.underlying128 H2.out.2.2.1 (intsV_one _)) (by unfold maxLen; omega) (by omega) (by omega) ?_; intro a9 c9 w9 hr9 st9; rw [← intsV_app] at hr9; have H9 : Hid (Row w9 1 a9 (n + 1 + 2 * 0) c9 (intsV (nL x m k ++ (d.o.count :: (d.o.pairs.take 0).flatMap prNums))) ∧ Step [] (blks a9) V w9 ∧ Blk w9 ob 125 (omc d).toArray) := Lib.hid ⟨hr9, H2.out.2.1.trans st9, H2.out.2.2.2.1.step st9 H2.out.2.2.2.2⟩; clear hr9 st9)
              clear H2 HO1 HW2 HEB f0 f2 fl
              have fc := H9.out.2.2.cell
              have f0 := fc 0
              clear fc
              simp only [omc, List.getElem?_toArray, List.getElem?_cons_zero, List.getElem?_cons_succ] at f0
              have fl := H9.out.2.2.lt
              go_wp2_with fail
              clear f0 fl
              go_loopw [4, 48] (fun s i W => ∃ (j : Nat) (bb : Option Addr) (cc : Nat), i = .int .i64 j ∧ j ≤ d.o.pairs.length ∧ s = .slice bb (n + 1 + 2 * j) cc ∧ Hid (Row W 1 bb (n + 1 + 2 * j) cc (intsV (nL x m k ++ (d.o.count :: (d.o.pairs.take j).flatMap prNums))) ∧ Step [] (blks bb) V W)) (fun _ i _ => d.o.pairs.length - (intOf i).toNat)
              case atStart => exact ⟨0, a9, c9, rfl, by omega, rfl, H9.out.1, H9.out.2.1⟩
              case round =>
                clear H9
                rename World => Y
                obtain ⟨j, bj, cj, rfl, hj, rfl, HY⟩ := hrel
                by_cases hlj : j < d.o.pairs.length
                · have hlj' : (j : Int) < d.o.pairs.length := by omega
                  obtain ⟨e, he⟩ : ∃ e, d.o.pairs[j]? = some e := ⟨_, List.getElem?_eq_getElem hlj⟩
                  have hrd := HD.out.2.2.step0 HY.out.2
                  obtain ⟨g2, off2, hsb⟩ := hrd.some_ (by omega)
                  rw [hsb] at hrd
                  have ce := rd_pr hrd he
                  have gl : g2 < Y.heap.size := by have := World.block_lt_of_cell? _ _ ce.1; simpa using this
                  have HEE := Lib.hid he
                  clear he hrd
                  have HSB := Lib.hid hsb
                  rw [hsb]
                  clear hsb
                  go_upto_region 11 with fail
                  obtain ⟨pb, hpb⟩ : ∃ pb, pb = Y.heap.size := ⟨_, rfl⟩
                  obtain ⟨Y1, hY1⟩ : ∃ Y1, Y1 = Y.alloc (.cells (prc e).toArray 127) := ⟨_, rfl⟩
                  obtain ⟨eb, heb⟩ : ∃ eb, eb = Y1.heap.size := ⟨_, rfl⟩
                  obtain ⟨Y2, hY2⟩ : ∃ Y2, Y2 = Y1.alloc (.cells #[.int .i64 e.made, .int .i64 e.rev] 3) := ⟨_, rfl⟩
                  have HP1 : Hid (Blk Y1 pb 127 (prc e).toArray) := Lib.hid (by rw [hY1, hpb]; exact Blk.new _ _ _)
                  have H2 : Hid (Row Y2 1 bj (n + 1 + 2 * j) cj (intsV (nL x m k ++ (d.o.count :: (d.o.pairs.take j).flatMap prNums))) ∧ Step [] (blks bj) V Y2 ∧ Rd Y2 1 (some ⟨eb, 0, none⟩) 2 (intsV (prNums e))) := by
                    refine ⟨by rw [hY2, hY1]; exact (HY.out.1.alloc _).alloc _, by rw [hY2, hY1]; exact (HY.out.2.alloc _).alloc _, by rw [hY2, heb]; exact rd_blk' (xs := intsV (prNums e)) (Blk.new _ 3 _) 1 2 rfl⟩
                  rw [show Y.alloc (.cells #[.string ⟨e.key.toArray⟩, .string ⟨e.val.toArray⟩, .int .i64 e.made, .int .i64 e.rev] 127) = Y1 from hY1.symm, ← hpb]
                  have HY2 := Lib.hid hY2
                  have HEB := Lib.hid heb
                  clear hY1 hpb hY2 heb ce gl HY
                  have fc := HP1.out.cell
                  have f2 := fc 2
                  have f3 := fc 3
                  clear fc
                  simp only [prc, List.getElem?_toArray, List.getElem?_cons_zero, List.getElem?_cons_succ] at f2 f3
                  have fl := HP1.out.lt
                  go_upto_region 12 with (at_builtin; rw [show Y1.alloc (.cells #[.int .i64 e.made, .int .i64 e.rev] 3) = Y2 from HY2.out.symm, show Y1.heap.size = eb from HEB.out.symm]; refine wpList_append_row rfl (.tmp 52) (.tmp 57) 128 128 rfl 3 i0 _ 1 8 Try.underlying128 HI.out.1 HI.out.2.1 HI.out.2.2.1 HI.out.2.2.2 rfl rfl H2.out.1 rfl (Src.rd 128 3 Try.underlying128 H2.out.2.2 (intsV_one _)) (by unfold maxLen; omega) (by omega) (by omega) ?_; intro a10 c10 w10 hr st; rw [← intsV_app, List.append_assoc, List.cons_append, ← fm_take prNums d.o.pairs j e HEE.out] at hr; have H10 : Hid (Row w10 1 a10 (n + 1 + 2 * (j + 1)) c10 (intsV (nL x m k ++ (d.o.count :: (d.o.pairs.take (j + 1)).flatMap prNums))) ∧ Step [] (blks a10) V w10) := Lib.hid ⟨hr, H2.out.2.1.trans st⟩; clear hr st)
                  clear H2 HP1 HY2 HEB f2 f3 fl
                  go_wp2_with fail
                  go_roundw
                  case rel => exact ⟨j + 1, a10, c10, by go_num, by omega, rfl, H10.out⟩
                  case measure => simp [intOf]; omega
                · obtain rfl : j = d.o.pairs.length := by omega
                  go_wp2_with fail
                  go_roundw
                  case rel => exact ⟨k + 1, _, bj, cj, by go_num, by omega, rfl, Lib.hid ⟨by rw [nL_step x m k d HX.out]; exact HY.out.1, HY.out.2⟩⟩
                  case measure => simp [intOf]; omega
            · obtain rfl : k = m.length := by omega
              have HZ : Hid (n = (numsA x).length ∧ Row W 1 bb n cc (intsV (numsA x))) := Lib.hid (by have h := HW.out.1; rw [nL_all x m HE.out.outs] at h; exact ⟨row_n h, h⟩)
              have hn := HZ.out.1
              rw [hn] at HZ
              rw [hn]
              clear hn
              go_wp2_with fail
              go_meet
              exact ⟨bb, cc, rfl, Lib.hid ⟨HZ.out.2, HB.out.step HW.out.2 (by simp), HW.out.2⟩⟩
        case rest =>
          rename World => Y
          obtain ⟨bz, cz, rfl, HZ⟩ := hcut
          rename ∀ (a : Act) (w : World), Code.wp _ _ _ a w → _ => hK
          refine hK _ _ ?_
          exact ae4 HE HH HZ
end Go.Proofs.Ytifjnpdnnfdcoaa
