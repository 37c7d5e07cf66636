/-
 Requests as values; Of: the request of a flat form. Condition: at most 2^40 compares and acts.
-/
import Derived.Test.YtjfaplmojpldhaaZReqB
namespace Go.Proofs.Ytjfaplmojpldhaa
open Go.RowKit
set_option linter.unusedSimpArgs false
set_option linter.unusedVariables false
set_option maxRecDepth 100000

def cmc (x : Cm) (s1 s2 s3 : Value) : List Value := [.int .i64 x.client, .int .i64 x.seq, Str x.token, .int .i64 x.kind, Str x.name, Str x.other, Str x.word, Str x.salt, .int .i64 x.bytes, .int .i64 x.keys, Str x.gf, Str x.gt, .bool x.gr, .bool x.gw, .int .i64 x.rev, s1, s2, s3]
abbrev cmV (x : Cm) (s1 s2 s3 : Value) : Value := .agg #[.int .i64 x.client, .int .i64 x.seq, Str x.token, .int .i64 x.kind, Str x.name, Str x.other, Str x.word, Str x.salt, .int .i64 x.bytes, .int .i64 x.keys, Str x.gf, Str x.gt, .bool x.gr, .bool x.gw, .int .i64 x.rev, s1, s2, s3]
/-- The lists of a flat form stand at three slices. -/
structure RdC (w : World) (x : Cm) (a1 a2 a3 : Option Addr) : Prop where
 i : Rd w 4 a1 x.ifs.length (cpcs x.ifs)
 t : Rd w 7 a2 x.thens.length (dacs x.thens)
 e : Rd w 7 a3 x.elses.length (dacs x.elses)
structure LenC (x : Cm) : Prop where
 i : x.ifs.length ≤ 1099511627776
 t : x.thens.length ≤ 1099511627776
 e : x.elses.length ≤ 1099511627776
theorem RdC.step {w w' : World} {x : Cm} {a1 a2 a3 : Option Addr} {S' : List Nat} (h : RdC w x a1 a2 a3) (k : Step [] S' w w') : RdC w' x a1 a2 a3 := ⟨h.i.step0 k, h.t.step0 k, h.e.step0 k⟩
theorem RdC.nil (w : World) (x : Cm) (h1 : x.ifs = []) (h2 : x.thens = []) (h3 : x.elses = []) : RdC w x none none none :=
 ⟨by rw [h1]; exact (Row.none w 4).rd, by rw [h2]; exact (Row.none w 7).rd, by rw [h3]; exact (Row.none w 7).rd⟩
def bodyV (y : Cm) (s1 s2 s3 : Value) : Value :=
 if y.kind = 1 then .iface 130 (.agg #[Str y.name, Str y.word]) else if y.kind = 2 then .iface 134 (.agg #[s1, s2, s3]) else if y.kind = 3 then .iface 136 (.agg #[.int .i64 y.rev]) else .iface 139 (adV y)
abbrev rqV (y : Cm) (b : Value) : Value := .agg #[.int .i64 y.client, .int .i64 y.seq, Str y.token, b]
structure IsReq (w : World) (y : Cm) (v : Value) : Prop where
 kind : isK y.kind = true
 clean : cleanC y = y
 at_ : ∃ a1 c1 a2 c2 a3 c3, v = rqV y (bodyV y (.slice a1 y.ifs.length c1) (.slice a2 y.thens.length c2) (.slice a3 y.elses.length c3)) ∧ RdC w y a1 a2 a3
 len : LenC y
theorem IsReq.step {w w' : World} {y : Cm} {v : Value} (h : IsReq w y v) (k : Step [] [] w w') : IsReq w' y v := by
 obtain ⟨a1, c1, a2, c2, a3, c3, h1, h2⟩ := h.at_
 exact ⟨h.kind, h.clean, ⟨a1, c1, a2, c2, a3, c3, h1, h2.step k⟩, h.len⟩
def OfPost (x : Cm) (w : World) (e : Ending) (w' : World) : Prop := ∃ v, e = .returned (.tuple #[v, .bool true]) ∧ IsReq w' (cleanC x) v ∧ Step [] [] w w'
theorem clean_lens (x : Cm) : (cleanC x).ifs.length ≤ x.ifs.length ∧ (cleanC x).thens.length ≤ x.thens.length ∧ (cleanC x).elses.length ≤ x.elses.length := by
 unfold cleanC onlyC
 cases isK x.kind with
 | false => simp [cmZ]
 | true => cases hasT x.kind <;> simp
theorem LenC.clean {x : Cm} (h : LenC x) : LenC (cleanC x) := by
 have := clean_lens x
 exact ⟨Nat.le_trans this.1 h.i, Nat.le_trans this.2.1 h.t, Nat.le_trans this.2.2 h.e⟩
theorem clean_nolists {x : Cm} (h : x.kind ≠ 2) : (cleanC x).ifs = [] ∧ (cleanC x).thens = [] ∧ (cleanC x).elses = [] := by
 have ht : hasT x.kind = false := by simp [hasT, h]
 unfold cleanC onlyC
 cases isK x.kind <;> simp [cmZ, ht]
theorem clean_head {x : Cm} (h : isK x.kind = true) : (cleanC x).client = x.client ∧ (cleanC x).seq = x.seq ∧ (cleanC x).token = x.token := by simp [cleanC, onlyC, h]

set_option maxHeartbeats 4000000 in
theorem of_none (x : Cm) (a1 a2 a3 : Option Addr) (c1 c2 c3 : Nat) (w : World) (hk : isK x.kind = false) : Calls Try.prog 38 #[cmV x (.slice a1 x.ifs.length c1) (.slice a2 x.thens.length c2) (.slice a3 x.elses.length c3)] w fun e w' => e = .returned (.tuple #[.agg #[.int .i64 0, .int .i64 0, .string ⟨#[]⟩, .nilIface], .bool false]) ∧ Step [] [] w w' := by
 have k1 : (x.kind == 1) = false := by simp [isK] at hk ⊢; omega
 have k2 : (x.kind == 2) = false := by simp [isK] at hk ⊢; omega
 have k3 : (x.kind == 3) = false := by simp [isK] at hk ⊢; omega
 have HKA : Hid (decide (4 ≤ x.kind ∧ x.kind ≤ 14) = false) := Lib.hid (decide_eq_false (by simp [isK] at hk; omega))
 clear hk
 go_enter Try.func38, Try.ntmps38
 go_upto_region 3 with fail
 obtain ⟨b, hb⟩ : ∃ b, b = w.heap.size := ⟨_, rfl⟩
 obtain ⟨V, hV⟩ : ∃ V, V = (((w.alloc (.cells #[.int .i64 x.client, .int .i64 x.seq, .string ⟨x.token.toArray⟩, .int .i64 x.kind, .string ⟨x.name.toArray⟩, .string ⟨x.other.toArray⟩, .string ⟨x.word.toArray⟩, .string ⟨x.salt.toArray⟩, .int .i64 x.bytes, .int .i64 x.keys, .string ⟨x.gf.toArray⟩, .string ⟨x.gt.toArray⟩, .bool x.gr, .bool x.gw, .int .i64 x.rev, .slice a1 x.ifs.length c1, .slice a2 x.thens.length c2, .slice a3 x.elses.length c3] 44)).alloc (.cells #[.int .i64 0, .int .i64 0, .string ⟨#[]⟩, .nilIface] 99)).alloc (.cells #[.int .i64 x.client, .int .i64 x.seq, .string ⟨x.token.toArray⟩, .nilIface] 99)) := ⟨_, rfl⟩
 have H1 : Hid (Blk V b 44 #[.int .i64 x.client, .int .i64 x.seq, .string ⟨x.token.toArray⟩, .int .i64 x.kind, .string ⟨x.name.toArray⟩, .string ⟨x.other.toArray⟩, .string ⟨x.word.toArray⟩, .string ⟨x.salt.toArray⟩, .int .i64 x.bytes, .int .i64 x.keys, .string ⟨x.gf.toArray⟩, .string ⟨x.gt.toArray⟩, .bool x.gr, .bool x.gw, .int .i64 x.rev, .slice a1 x.ifs.length c1, .slice a2 x.thens.length c2, .slice a3 x.elses.length c3] ∧ Blk V (b + 1) 99 #[.int .i64 0, .int .i64 0, .string ⟨#[]⟩, .nilIface] ∧ Blk V (b + 1 + 1) 99 #[.int .i64 x.client, .int .i64 x.seq, .string ⟨x.token.toArray⟩, .nilIface] ∧ Step [] [] w V ∧ b = w.heap.size) := by
  rw [hV, hb]
  have Q := blk3q w 44 99 99 #[.int .i64 x.client, .int .i64 x.seq, .string ⟨x.token.toArray⟩, .int .i64 x.kind, .string ⟨x.name.toArray⟩, .string ⟨x.other.toArray⟩, .string ⟨x.word.toArray⟩, .string ⟨x.salt.toArray⟩, .int .i64 x.bytes, .int .i64 x.keys, .string ⟨x.gf.toArray⟩, .string ⟨x.gt.toArray⟩, .bool x.gr, .bool x.gw, .int .i64 x.rev, .slice a1 x.ifs.length c1, .slice a2 x.thens.length c2, .slice a3 x.elses.length c3] #[.int .i64 0, .int .i64 0, .string ⟨#[]⟩, .nilIface] #[.int .i64 x.client, .int .i64 x.seq, .string ⟨x.token.toArray⟩, .nilIface]
  exact ⟨Q.1, Q.2.1, Q.2.2, (((Step.refl [] w).alloc _).alloc _).alloc _, rfl⟩
 rw [← hV, ← hb]
 clear hV hb
 have cc := (H1.out.1).cell
 have c0 := cc 0
 have c1 := cc 1
 have c2 := cc 2
 have c3 := cc 3
 have c4 := cc 4
 have c5 := cc 5
 have c6 := cc 6
 have c7 := cc 7
 have c8 := cc 8
 have c9 := cc 9
 have c10 := cc 10
 have c11 := cc 11
 have c12 := cc 12
 have c13 := cc 13
 have c14 := cc 14
 have c15 := cc 15
 have c16 := cc 16
 have c17 := cc 17
 clear cc
 simp only [List.getElem?_toArray, List.getElem?_cons_zero, List.getElem?_cons_succ] at c0 c1 c2 c3 c4 c5 c6 c7 c8 c9 c10 c11 c12 c13 c14 c15 c16 c17
 have cl := (H1.out.1).lt
 go_wp2_with fail
 refine (admin_any x.kind V).mono ?_
 rintro e V0 ⟨rfl, rfl⟩
 rw [HKA.out]
 go_upto_region 2 with fail
 clear c0 c1 c2 c3 c4 c5 c6 c7 c8 c9 c10 c11 c12 c13 c14 c15 c16 c17 cl
 have HB := Lib.hid H1.out.2.2.2.2
 obtain ⟨W, hW⟩ : ∃ W, W = V := ⟨_, rfl⟩
 have M : Hid (True ∧ Blk W (b + 1) 99 #[.int .i64 0, .int .i64 0, .string ⟨#[]⟩, .nilIface] ∧ Step [] [] w W) := by rw [hW]; exact ⟨trivial, H1.out.2.1, H1.out.2.2.2.1⟩
 rw [← hW]
 clear hW
 have zc := (M.out.2.1).cell
 have z0 := zc 0
 have z1 := zc 1
 have z2 := zc 2
 have z3 := zc 3
 clear zc
 simp only [List.getElem?_toArray, List.getElem?_cons_zero, List.getElem?_cons_succ] at z0 z1 z2 z3
 have zl := (M.out.2.1).lt
 have zfz := (M.out.2.1).frozen
 have zf0 := zfz 0
 have zf1 := zfz 1
 have zf2 := zfz 2
 have zf3 := zfz 3
 clear zfz
 go_wp2_with fail
 change bodyPost _ _ _ _ _ (putL W (b + 1) 0 [.int .i64 0, .int .i64 0, .string ⟨#[]⟩, .nilIface])
 have Q := M.out.2.1.put0 [.int .i64 0, .int .i64 0, .string ⟨#[]⟩, .nilIface] rfl
 have ss := step_putL (b + 1) [.int .i64 0, .int .i64 0, .string ⟨#[]⟩, .nilIface] 0 W
 obtain ⟨U, hU⟩ : ∃ U, U = putL W (b + 1) 0 [.int .i64 0, .int .i64 0, .string ⟨#[]⟩, .nilIface] := ⟨_, rfl⟩
 rw [← hU] at Q ss ⊢
 clear hU
 clear z0 z1 z2 z3 zl zf0 zf1 zf2 zf3
 have pc := (Q).cell
 have p0 := pc 0
 have p1 := pc 1
 have p2 := pc 2
 have p3 := pc 3
 clear pc
 simp only [List.getElem?_toArray, List.getElem?_cons_zero, List.getElem?_cons_succ] at p0 p1 p2 p3
 have pl := (Q).lt
 have so := M.out.2.2.out1' ss (by have := HB.out; simp; omega)
 refine bodyPost_ret (v := .tuple #[.agg #[.int .i64 0, .int .i64 0, .string ⟨#[]⟩, .nilIface], .bool false]) ?_ rfl ⟨rfl, so⟩
 simp [results, Try.results38, go_sem, p0, p1, p2, p3]

set_option maxHeartbeats 8000000 in
theorem of1_any (x : Cm) (a1 a2 a3 : Option Addr) (c1 c2 c3 : Nat) (w : World) (hk : x.kind = 1) (hl : LenC x) : Calls Try.prog 38 #[cmV x (.slice a1 x.ifs.length c1) (.slice a2 x.thens.length c2) (.slice a3 x.elses.length c3)] w (OfPost x w) := by
 have HK := Lib.hid hk
 have k1 : (x.kind == 1) = true := by simp [hk]
 have k2 : (x.kind == 2) = false := by simp [hk]
 have k3 : (x.kind == 3) = false := by simp [hk]
 have HIK : Hid (isK x.kind = true) := Lib.hid (by simp [isK, hk])
 have HLN := Lib.hid hl
 clear hk hl
 go_enter Try.func38, Try.ntmps38
 go_upto_region 3 with fail
 obtain ⟨b, hb⟩ : ∃ b, b = w.heap.size := ⟨_, rfl⟩
 obtain ⟨V, hV⟩ : ∃ V, V = (((w.alloc (.cells #[.int .i64 x.client, .int .i64 x.seq, .string ⟨x.token.toArray⟩, .int .i64 x.kind, .string ⟨x.name.toArray⟩, .string ⟨x.other.toArray⟩, .string ⟨x.word.toArray⟩, .string ⟨x.salt.toArray⟩, .int .i64 x.bytes, .int .i64 x.keys, .string ⟨x.gf.toArray⟩, .string ⟨x.gt.toArray⟩, .bool x.gr, .bool x.gw, .int .i64 x.rev, .slice a1 x.ifs.length c1, .slice a2 x.thens.length c2, .slice a3 x.elses.length c3] 44)).alloc (.cells #[.int .i64 0, .int .i64 0, .string ⟨#[]⟩, .nilIface] 99)).alloc (.cells #[.int .i64 x.client, .int .i64 x.seq, .string ⟨x.token.toArray⟩, .nilIface] 99)) := ⟨_, rfl⟩
 have H1 : Hid (Blk V b 44 #[.int .i64 x.client, .int .i64 x.seq, .string ⟨x.token.toArray⟩, .int .i64 x.kind, .string ⟨x.name.toArray⟩, .string ⟨x.other.toArray⟩, .string ⟨x.word.toArray⟩, .string ⟨x.salt.toArray⟩, .int .i64 x.bytes, .int .i64 x.keys, .string ⟨x.gf.toArray⟩, .string ⟨x.gt.toArray⟩, .bool x.gr, .bool x.gw, .int .i64 x.rev, .slice a1 x.ifs.length c1, .slice a2 x.thens.length c2, .slice a3 x.elses.length c3] ∧ Blk V (b + 1) 99 #[.int .i64 0, .int .i64 0, .string ⟨#[]⟩, .nilIface] ∧ Blk V (b + 1 + 1) 99 #[.int .i64 x.client, .int .i64 x.seq, .string ⟨x.token.toArray⟩, .nilIface] ∧ Step [] [] w V ∧ b = w.heap.size) := by
  rw [hV, hb]
  have Q := blk3q w 44 99 99 #[.int .i64 x.client, .int .i64 x.seq, .string ⟨x.token.toArray⟩, .int .i64 x.kind, .string ⟨x.name.toArray⟩, .string ⟨x.other.toArray⟩, .string ⟨x.word.toArray⟩, .string ⟨x.salt.toArray⟩, .int .i64 x.bytes, .int .i64 x.keys, .string ⟨x.gf.toArray⟩, .string ⟨x.gt.toArray⟩, .bool x.gr, .bool x.gw, .int .i64 x.rev, .slice a1 x.ifs.length c1, .slice a2 x.thens.length c2, .slice a3 x.elses.length c3] #[.int .i64 0, .int .i64 0, .string ⟨#[]⟩, .nilIface] #[.int .i64 x.client, .int .i64 x.seq, .string ⟨x.token.toArray⟩, .nilIface]
  exact ⟨Q.1, Q.2.1, Q.2.2, (((Step.refl [] w).alloc _).alloc _).alloc _, rfl⟩
 rw [← hV, ← hb]
 clear hV hb
 have cc := (H1.out.1).cell
 have c0 := cc 0
 have c1 := cc 1
 have c2 := cc 2
 have c3 := cc 3
 have c4 := cc 4
 have c5 := cc 5
 have c6 := cc 6
 have c7 := cc 7
 have c8 := cc 8
 have c9 := cc 9
 have c10 := cc 10
 have c11 := cc 11
 have c12 := cc 12
 have c13 := cc 13
 have c14 := cc 14
 have c15 := cc 15
 have c16 := cc 16
 have c17 := cc 17
 clear cc
 simp only [List.getElem?_toArray, List.getElem?_cons_zero, List.getElem?_cons_succ] at c0 c1 c2 c3 c4 c5 c6 c7 c8 c9 c10 c11 c12 c13 c14 c15 c16 c17
 have cl := (H1.out.1).lt
 go_upto_region 4 with fail
 have rc := (H1.out.2.2.1).cell
 have r0 := rc 0
 have r1 := rc 1
 have r2 := rc 2
 have r3 := rc 3
 clear rc
 simp only [List.getElem?_toArray, List.getElem?_cons_zero, List.getElem?_cons_succ] at r0 r1 r2 r3
 have rl := (H1.out.2.2.1).lt
 have rfz := (H1.out.2.2.1).frozen
 have rf0 := rfz 0
 have rf1 := rfz 1
 have rf2 := rfz 2
 have rf3 := rfz 3
 clear rfz
 go_upto_region 11 with fail
 clear c0 c1 c2 c3 c4 c5 c6 c7 c8 c9 c10 c11 c12 c13 c14 c15 c16 c17 cl
 clear r0 r1 r2 r3 rl rf0 rf1 rf2 rf3
 have HB := Lib.hid H1.out.2.2.2.2
 have N0 : Hid (Blk V (b + 1 + 1) 99 #[.int .i64 x.client, .int .i64 x.seq, .string ⟨x.token.toArray⟩, .nilIface] ∧ Blk V (b + 1) 99 #[.int .i64 0, .int .i64 0, .string ⟨#[]⟩, .nilIface] ∧ Step [] [] w V) := ⟨H1.out.2.2.1, H1.out.2.1, H1.out.2.2.2.1⟩
 obtain ⟨W, hW⟩ : ∃ W, W = V.setCell ⟨b + 1 + 1, 3, none⟩ (.iface 130 (.agg #[.string ⟨x.name.toArray⟩, .string ⟨x.word.toArray⟩])) := ⟨_, rfl⟩
 have ss0 : Step [b + 1 + 1] [b + 1 + 1] V W := by
  rw [hW]
  exact (Step.refl _ _).setCell (.inl (by simp)) _
 have M : Hid (Blk W (b + 1 + 1) 99 #[.int .i64 x.client, .int .i64 x.seq, .string ⟨x.token.toArray⟩, .iface 130 (.agg #[.string ⟨x.name.toArray⟩, .string ⟨x.word.toArray⟩])] ∧ Blk W (b + 1) 99 #[.int .i64 0, .int .i64 0, .string ⟨#[]⟩, .nilIface] ∧ Step [] [] w W) := ⟨by rw [hW]; have hq := N0.out.1.set 3 (.iface 130 (.agg #[.string ⟨x.name.toArray⟩, .string ⟨x.word.toArray⟩])); simpa using hq, N0.out.2.1.step ss0 (by simp), N0.out.2.2.out1' ss0 (by have := HB.out; simp; omega)⟩
 have HSS := Lib.hid ss0
 rw [← hW]
 clear hW ss0
 have nc := (M.out.1).cell
 have n0 := nc 0
 have n1 := nc 1
 have n2 := nc 2
 have n3 := nc 3
 clear nc
 simp only [List.getElem?_toArray, List.getElem?_cons_zero, List.getElem?_cons_succ] at n0 n1 n2 n3
 have nl := (M.out.1).lt
 have zc := (M.out.2.1).cell
 have z0 := zc 0
 have z1 := zc 1
 have z2 := zc 2
 have z3 := zc 3
 clear zc
 simp only [List.getElem?_toArray, List.getElem?_cons_zero, List.getElem?_cons_succ] at z0 z1 z2 z3
 have zl := (M.out.2.1).lt
 have zfz := (M.out.2.1).frozen
 have zf0 := zfz 0
 have zf1 := zfz 1
 have zf2 := zfz 2
 have zf3 := zfz 3
 clear zfz
 go_wp2_with fail
 change bodyPost _ _ _ _ _ (putL W (b + 1) 0 [.int .i64 x.client, .int .i64 x.seq, .string ⟨x.token.toArray⟩, .iface 130 (.agg #[.string ⟨x.name.toArray⟩, .string ⟨x.word.toArray⟩])])
 have Q := M.out.2.1.put0 [.int .i64 x.client, .int .i64 x.seq, .string ⟨x.token.toArray⟩, .iface 130 (.agg #[.string ⟨x.name.toArray⟩, .string ⟨x.word.toArray⟩])] rfl
 have ss := step_putL (b + 1) [.int .i64 x.client, .int .i64 x.seq, .string ⟨x.token.toArray⟩, .iface 130 (.agg #[.string ⟨x.name.toArray⟩, .string ⟨x.word.toArray⟩])] 0 W
 obtain ⟨U, hU⟩ : ∃ U, U = putL W (b + 1) 0 [.int .i64 x.client, .int .i64 x.seq, .string ⟨x.token.toArray⟩, .iface 130 (.agg #[.string ⟨x.name.toArray⟩, .string ⟨x.word.toArray⟩])] := ⟨_, rfl⟩
 rw [← hU] at Q ss ⊢
 clear hU
 clear z0 z1 z2 z3 zl zf0 zf1 zf2 zf3
 clear n0 n1 n2 n3 nl
 have pc := (Q).cell
 have p0 := pc 0
 have p1 := pc 1
 have p2 := pc 2
 have p3 := pc 3
 clear pc
 simp only [List.getElem?_toArray, List.getElem?_cons_zero, List.getElem?_cons_succ] at p0 p1 p2 p3
 have pl := (Q).lt
 have so := M.out.2.2.out1' ss (by have := HB.out; simp; omega)
 refine bodyPost_ret (v := .tuple #[.agg #[.int .i64 x.client, .int .i64 x.seq, .string ⟨x.token.toArray⟩, .iface 130 (.agg #[.string ⟨x.name.toArray⟩, .string ⟨x.word.toArray⟩])], .bool true]) ?_ rfl ⟨.agg #[.int .i64 x.client, .int .i64 x.seq, .string ⟨x.token.toArray⟩, .iface 130 (.agg #[.string ⟨x.name.toArray⟩, .string ⟨x.word.toArray⟩])], rfl, ?_, so⟩
 ·simp [results, Try.results38, go_sem, p0, p1, p2, p3]
 ·have hn := clean_nolists (x := x) (by rw [HK.out]; decide)
  have hh := clean_head HIK.out
  refine ⟨by rw [clean_kind HIK.out]; exact HIK.out, clean_twice HIK.out, ⟨none, 0, none, 0, none, 0, ?_, RdC.nil _ _ hn.1 hn.2.1 hn.2.2⟩, HLN.out.clean⟩
  simp [rqV, bodyV, cleanC, onlyC, isK, hasN, hasW, hasR, HK.out]

set_option maxHeartbeats 8000000 in
theorem of3_any (x : Cm) (a1 a2 a3 : Option Addr) (c1 c2 c3 : Nat) (w : World) (hk : x.kind = 3) (hl : LenC x) : Calls Try.prog 38 #[cmV x (.slice a1 x.ifs.length c1) (.slice a2 x.thens.length c2) (.slice a3 x.elses.length c3)] w (OfPost x w) := by
 have HK := Lib.hid hk
 have k1 : (x.kind == 1) = false := by simp [hk]
 have k2 : (x.kind == 2) = false := by simp [hk]
 have k3 : (x.kind == 3) = true := by simp [hk]
 have HIK : Hid (isK x.kind = true) := Lib.hid (by simp [isK, hk])
 have HLN := Lib.hid hl
 clear hk hl
 go_enter Try.func38, Try.ntmps38
 go_upto_region 3 with fail
 obtain ⟨b, hb⟩ : ∃ b, b = w.heap.size := ⟨_, rfl⟩
 obtain ⟨V, hV⟩ : ∃ V, V = (((w.alloc (.cells #[.int .i64 x.client, .int .i64 x.seq, .string ⟨x.token.toArray⟩, .int .i64 x.kind, .string ⟨x.name.toArray⟩, .string ⟨x.other.toArray⟩, .string ⟨x.word.toArray⟩, .string ⟨x.salt.toArray⟩, .int .i64 x.bytes, .int .i64 x.keys, .string ⟨x.gf.toArray⟩, .string ⟨x.gt.toArray⟩, .bool x.gr, .bool x.gw, .int .i64 x.rev, .slice a1 x.ifs.length c1, .slice a2 x.thens.length c2, .slice a3 x.elses.length c3] 44)).alloc (.cells #[.int .i64 0, .int .i64 0, .string ⟨#[]⟩, .nilIface] 99)).alloc (.cells #[.int .i64 x.client, .int .i64 x.seq, .string ⟨x.token.toArray⟩, .nilIface] 99)) := ⟨_, rfl⟩
 have H1 : Hid (Blk V b 44 #[.int .i64 x.client, .int .i64 x.seq, .string ⟨x.token.toArray⟩, .int .i64 x.kind, .string ⟨x.name.toArray⟩, .string ⟨x.other.toArray⟩, .string ⟨x.word.toArray⟩, .string ⟨x.salt.toArray⟩, .int .i64 x.bytes, .int .i64 x.keys, .string ⟨x.gf.toArray⟩, .string ⟨x.gt.toArray⟩, .bool x.gr, .bool x.gw, .int .i64 x.rev, .slice a1 x.ifs.length c1, .slice a2 x.thens.length c2, .slice a3 x.elses.length c3] ∧ Blk V (b + 1) 99 #[.int .i64 0, .int .i64 0, .string ⟨#[]⟩, .nilIface] ∧ Blk V (b + 1 + 1) 99 #[.int .i64 x.client, .int .i64 x.seq, .string ⟨x.token.toArray⟩, .nilIface] ∧ Step [] [] w V ∧ b = w.heap.size) := by
  rw [hV, hb]
  have Q := blk3q w 44 99 99 #[.int .i64 x.client, .int .i64 x.seq, .string ⟨x.token.toArray⟩, .int .i64 x.kind, .string ⟨x.name.toArray⟩, .string ⟨x.other.toArray⟩, .string ⟨x.word.toArray⟩, .string ⟨x.salt.toArray⟩, .int .i64 x.bytes, .int .i64 x.keys, .string ⟨x.gf.toArray⟩, .string ⟨x.gt.toArray⟩, .bool x.gr, .bool x.gw, .int .i64 x.rev, .slice a1 x.ifs.length c1, .slice a2 x.thens.length c2, .slice a3 x.elses.length c3] #[.int .i64 0, .int .i64 0, .string ⟨#[]⟩, .nilIface] #[.int .i64 x.client, .int .i64 x.seq, .string ⟨x.token.toArray⟩, .nilIface]
  exact ⟨Q.1, Q.2.1, Q.2.2, (((Step.refl [] w).alloc _).alloc _).alloc _, rfl⟩
 rw [← hV, ← hb]
 clear hV hb
 have cc := (H1.out.1).cell
 have c0 := cc 0
 have c1 := cc 1
 have c2 := cc 2
 have c3 := cc 3
 have c4 := cc 4
 have c5 := cc 5
 have c6 := cc 6
 have c7 := cc 7
 have c8 := cc 8
 have c9 := cc 9
 have c10 := cc 10
 have c11 := cc 11
 have c12 := cc 12
 have c13 := cc 13
 have c14 := cc 14
 have c15 := cc 15
 have c16 := cc 16
 have c17 := cc 17
 clear cc
 simp only [List.getElem?_toArray, List.getElem?_cons_zero, List.getElem?_cons_succ] at c0 c1 c2 c3 c4 c5 c6 c7 c8 c9 c10 c11 c12 c13 c14 c15 c16 c17
 have cl := (H1.out.1).lt
 go_upto_region 8 with fail
 have rc := (H1.out.2.2.1).cell
 have r0 := rc 0
 have r1 := rc 1
 have r2 := rc 2
 have r3 := rc 3
 clear rc
 simp only [List.getElem?_toArray, List.getElem?_cons_zero, List.getElem?_cons_succ] at r0 r1 r2 r3
 have rl := (H1.out.2.2.1).lt
 have rfz := (H1.out.2.2.1).frozen
 have rf0 := rfz 0
 have rf1 := rfz 1
 have rf2 := rfz 2
 have rf3 := rfz 3
 clear rfz
 go_upto_region 11 with fail
 clear c0 c1 c2 c3 c4 c5 c6 c7 c8 c9 c10 c11 c12 c13 c14 c15 c16 c17 cl
 clear r0 r1 r2 r3 rl rf0 rf1 rf2 rf3
 have HB := Lib.hid H1.out.2.2.2.2
 have N0 : Hid (Blk V (b + 1 + 1) 99 #[.int .i64 x.client, .int .i64 x.seq, .string ⟨x.token.toArray⟩, .nilIface] ∧ Blk V (b + 1) 99 #[.int .i64 0, .int .i64 0, .string ⟨#[]⟩, .nilIface] ∧ Step [] [] w V) := ⟨H1.out.2.2.1, H1.out.2.1, H1.out.2.2.2.1⟩
 obtain ⟨W, hW⟩ : ∃ W, W = V.setCell ⟨b + 1 + 1, 3, none⟩ (.iface 136 (.agg #[.int .i64 x.rev])) := ⟨_, rfl⟩
 have ss0 : Step [b + 1 + 1] [b + 1 + 1] V W := by
  rw [hW]
  exact (Step.refl _ _).setCell (.inl (by simp)) _
 have M : Hid (Blk W (b + 1 + 1) 99 #[.int .i64 x.client, .int .i64 x.seq, .string ⟨x.token.toArray⟩, .iface 136 (.agg #[.int .i64 x.rev])] ∧ Blk W (b + 1) 99 #[.int .i64 0, .int .i64 0, .string ⟨#[]⟩, .nilIface] ∧ Step [] [] w W) := ⟨by rw [hW]; have hq := N0.out.1.set 3 (.iface 136 (.agg #[.int .i64 x.rev])); simpa using hq, N0.out.2.1.step ss0 (by simp), N0.out.2.2.out1' ss0 (by have := HB.out; simp; omega)⟩
 have HSS := Lib.hid ss0
 rw [← hW]
 clear hW ss0
 have nc := (M.out.1).cell
 have n0 := nc 0
 have n1 := nc 1
 have n2 := nc 2
 have n3 := nc 3
 clear nc
 simp only [List.getElem?_toArray, List.getElem?_cons_zero, List.getElem?_cons_succ] at n0 n1 n2 n3
 have nl := (M.out.1).lt
 have zc := (M.out.2.1).cell
 have z0 := zc 0
 have z1 := zc 1
 have z2 := zc 2
 have z3 := zc 3
 clear zc
 simp only [List.getElem?_toArray, List.getElem?_cons_zero, List.getElem?_cons_succ] at z0 z1 z2 z3
 have zl := (M.out.2.1).lt
 have zfz := (M.out.2.1).frozen
 have zf0 := zfz 0
 have zf1 := zfz 1
 have zf2 := zfz 2
 have zf3 := zfz 3
 clear zfz
 go_wp2_with fail
 change bodyPost _ _ _ _ _ (putL W (b + 1) 0 [.int .i64 x.client, .int .i64 x.seq, .string ⟨x.token.toArray⟩, .iface 136 (.agg #[.int .i64 x.rev])])
 have Q := M.out.2.1.put0 [.int .i64 x.client, .int .i64 x.seq, .string ⟨x.token.toArray⟩, .iface 136 (.agg #[.int .i64 x.rev])] rfl
 have ss := step_putL (b + 1) [.int .i64 x.client, .int .i64 x.seq, .string ⟨x.token.toArray⟩, .iface 136 (.agg #[.int .i64 x.rev])] 0 W
 obtain ⟨U, hU⟩ : ∃ U, U = putL W (b + 1) 0 [.int .i64 x.client, .int .i64 x.seq, .string ⟨x.token.toArray⟩, .iface 136 (.agg #[.int .i64 x.rev])] := ⟨_, rfl⟩
 rw [← hU] at Q ss ⊢
 clear hU
 clear z0 z1 z2 z3 zl zf0 zf1 zf2 zf3
 clear n0 n1 n2 n3 nl
 have pc := (Q).cell
 have p0 := pc 0
 have p1 := pc 1
 have p2 := pc 2
 have p3 := pc 3
 clear pc
 simp only [List.getElem?_toArray, List.getElem?_cons_zero, List.getElem?_cons_succ] at p0 p1 p2 p3
 have pl := (Q).lt
 have so := M.out.2.2.out1' ss (by have := HB.out; simp; omega)
 refine bodyPost_ret (v := .tuple #[.agg #[.int .i64 x.client, .int .i64 x.seq, .string ⟨x.token.toArray⟩, .iface 136 (.agg #[.int .i64 x.rev])], .bool true]) ?_ rfl ⟨.agg #[.int .i64 x.client, .int .i64 x.seq, .string ⟨x.token.toArray⟩, .iface 136 (.agg #[.int .i64 x.rev])], rfl, ?_, so⟩
 ·simp [results, Try.results38, go_sem, p0, p1, p2, p3]
 ·have hn := clean_nolists (x := x) (by rw [HK.out]; decide)
  have hh := clean_head HIK.out
  refine ⟨by rw [clean_kind HIK.out]; exact HIK.out, clean_twice HIK.out, ⟨none, 0, none, 0, none, 0, ?_, RdC.nil _ _ hn.1 hn.2.1 hn.2.2⟩, HLN.out.clean⟩
  simp [rqV, bodyV, cleanC, onlyC, isK, hasN, hasW, hasR, HK.out]

set_option maxHeartbeats 8000000 in
theorem ofA_any (x : Cm) (a1 a2 a3 : Option Addr) (c1 c2 c3 : Nat) (w : World) (hk : 4 ≤ x.kind ∧ x.kind ≤ 14) (hl : LenC x) : Calls Try.prog 38 #[cmV x (.slice a1 x.ifs.length c1) (.slice a2 x.thens.length c2) (.slice a3 x.elses.length c3)] w (OfPost x w) := by
 have k1 : (x.kind == 1) = false := by simp; omega
 have k2 : (x.kind == 2) = false := by simp; omega
 have k3 : (x.kind == 3) = false := by simp; omega
 have HKA : Hid (decide (4 ≤ x.kind ∧ x.kind ≤ 14) = true) := Lib.hid (decide_eq_true hk)
 have HK := Lib.hid hk
 have HIK : Hid (isK x.kind = true) := Lib.hid (by simp [isK]; omega)
 have HLN := Lib.hid hl
 clear hk hl
 go_enter Try.func38, Try.ntmps38
 go_upto_region 3 with fail
 obtain ⟨b, hb⟩ : ∃ b, b = w.heap.size := ⟨_, rfl⟩
 obtain ⟨V, hV⟩ : ∃ V, V = (((w.alloc (.cells #[.int .i64 x.client, .int .i64 x.seq, .string ⟨x.token.toArray⟩, .int .i64 x.kind, .string ⟨x.name.toArray⟩, .string ⟨x.other.toArray⟩, .string ⟨x.word.toArray⟩, .string ⟨x.salt.toArray⟩, .int .i64 x.bytes, .int .i64 x.keys, .string ⟨x.gf.toArray⟩, .string ⟨x.gt.toArray⟩, .bool x.gr, .bool x.gw, .int .i64 x.rev, .slice a1 x.ifs.length c1, .slice a2 x.thens.length c2, .slice a3 x.elses.length c3] 44)).alloc (.cells #[.int .i64 0, .int .i64 0, .string ⟨#[]⟩, .nilIface] 99)).alloc (.cells #[.int .i64 x.client, .int .i64 x.seq, .string ⟨x.token.toArray⟩, .nilIface] 99)) := ⟨_, rfl⟩
 have H1 : Hid (Blk V b 44 #[.int .i64 x.client, .int .i64 x.seq, .string ⟨x.token.toArray⟩, .int .i64 x.kind, .string ⟨x.name.toArray⟩, .string ⟨x.other.toArray⟩, .string ⟨x.word.toArray⟩, .string ⟨x.salt.toArray⟩, .int .i64 x.bytes, .int .i64 x.keys, .string ⟨x.gf.toArray⟩, .string ⟨x.gt.toArray⟩, .bool x.gr, .bool x.gw, .int .i64 x.rev, .slice a1 x.ifs.length c1, .slice a2 x.thens.length c2, .slice a3 x.elses.length c3] ∧ Blk V (b + 1) 99 #[.int .i64 0, .int .i64 0, .string ⟨#[]⟩, .nilIface] ∧ Blk V (b + 1 + 1) 99 #[.int .i64 x.client, .int .i64 x.seq, .string ⟨x.token.toArray⟩, .nilIface] ∧ Step [] [] w V ∧ b = w.heap.size) := by
  rw [hV, hb]
  have Q := blk3q w 44 99 99 #[.int .i64 x.client, .int .i64 x.seq, .string ⟨x.token.toArray⟩, .int .i64 x.kind, .string ⟨x.name.toArray⟩, .string ⟨x.other.toArray⟩, .string ⟨x.word.toArray⟩, .string ⟨x.salt.toArray⟩, .int .i64 x.bytes, .int .i64 x.keys, .string ⟨x.gf.toArray⟩, .string ⟨x.gt.toArray⟩, .bool x.gr, .bool x.gw, .int .i64 x.rev, .slice a1 x.ifs.length c1, .slice a2 x.thens.length c2, .slice a3 x.elses.length c3] #[.int .i64 0, .int .i64 0, .string ⟨#[]⟩, .nilIface] #[.int .i64 x.client, .int .i64 x.seq, .string ⟨x.token.toArray⟩, .nilIface]
  exact ⟨Q.1, Q.2.1, Q.2.2, (((Step.refl [] w).alloc _).alloc _).alloc _, rfl⟩
 rw [← hV, ← hb]
 clear hV hb
 have cc := (H1.out.1).cell
 have c0 := cc 0
 have c1 := cc 1
 have c2 := cc 2
 have c3 := cc 3
 have c4 := cc 4
 have c5 := cc 5
 have c6 := cc 6
 have c7 := cc 7
 have c8 := cc 8
 have c9 := cc 9
 have c10 := cc 10
 have c11 := cc 11
 have c12 := cc 12
 have c13 := cc 13
 have c14 := cc 14
 have c15 := cc 15
 have c16 := cc 16
 have c17 := cc 17
 clear cc
 simp only [List.getElem?_toArray, List.getElem?_cons_zero, List.getElem?_cons_succ] at c0 c1 c2 c3 c4 c5 c6 c7 c8 c9 c10 c11 c12 c13 c14 c15 c16 c17
 have cl := (H1.out.1).lt
 go_wp2_with fail
 refine (admin_any x.kind V).mono ?_
 rintro e V0 ⟨rfl, rfl⟩
 rw [HKA.out]
 go_wp2_with fail
 refine (only_any x V HK.out).mono ?_
 rintro e V2 ⟨rfl, k2⟩
 obtain ⟨y, hy⟩ : ∃ y, y = cleanC x := ⟨_, rfl⟩
 have HY := Lib.hid hy
 rw [← hy]
 clear hy
 clear c0 c1 c2 c3 c4 c5 c6 c7 c8 c9 c10 c11 c12 c13 c14 c15 c16 c17 cl
 have HB := Lib.hid H1.out.2.2.2.2
 have N0 : Hid (Blk V2 (b + 1 + 1) 99 #[.int .i64 x.client, .int .i64 x.seq, .string ⟨x.token.toArray⟩, .nilIface] ∧ Blk V2 (b + 1) 99 #[.int .i64 0, .int .i64 0, .string ⟨#[]⟩, .nilIface] ∧ Step [] [] w V2) := ⟨H1.out.2.2.1.step k2 (by simp), H1.out.2.1.step k2 (by simp), H1.out.2.2.2.1.trans k2⟩
 clear k2
 have rc := (N0.out.1).cell
 have r0 := rc 0
 have r1 := rc 1
 have r2 := rc 2
 have r3 := rc 3
 clear rc
 simp only [List.getElem?_toArray, List.getElem?_cons_zero, List.getElem?_cons_succ] at r0 r1 r2 r3
 have rl := (N0.out.1).lt
 have rfz := (N0.out.1).frozen
 have rf0 := rfz 0
 have rf1 := rfz 1
 have rf2 := rfz 2
 have rf3 := rfz 3
 clear rfz
 go_upto_region 11 with fail
 clear r0 r1 r2 r3 rl rf0 rf1 rf2 rf3
 obtain ⟨W, hW⟩ : ∃ W, W = V2.setCell ⟨b + 1 + 1, 3, none⟩ (.iface 139 (.agg #[.int .i64 y.kind, .string ⟨y.name.toArray⟩, .string ⟨y.other.toArray⟩, .string ⟨y.word.toArray⟩, .string ⟨y.salt.toArray⟩, .int .i64 y.bytes, .int .i64 y.keys, .string ⟨y.gf.toArray⟩, .string ⟨y.gt.toArray⟩, .bool y.gr, .bool y.gw])) := ⟨_, rfl⟩
 have ss0 : Step [b + 1 + 1] [b + 1 + 1] V2 W := by
  rw [hW]
  exact (Step.refl _ _).setCell (.inl (by simp)) _
 have M : Hid (Blk W (b + 1 + 1) 99 #[.int .i64 x.client, .int .i64 x.seq, .string ⟨x.token.toArray⟩, .iface 139 (.agg #[.int .i64 y.kind, .string ⟨y.name.toArray⟩, .string ⟨y.other.toArray⟩, .string ⟨y.word.toArray⟩, .string ⟨y.salt.toArray⟩, .int .i64 y.bytes, .int .i64 y.keys, .string ⟨y.gf.toArray⟩, .string ⟨y.gt.toArray⟩, .bool y.gr, .bool y.gw])] ∧ Blk W (b + 1) 99 #[.int .i64 0, .int .i64 0, .string ⟨#[]⟩, .nilIface] ∧ Step [] [] w W) := ⟨by rw [hW]; have hq := N0.out.1.set 3 (.iface 139 (.agg #[.int .i64 y.kind, .string ⟨y.name.toArray⟩, .string ⟨y.other.toArray⟩, .string ⟨y.word.toArray⟩, .string ⟨y.salt.toArray⟩, .int .i64 y.bytes, .int .i64 y.keys, .string ⟨y.gf.toArray⟩, .string ⟨y.gt.toArray⟩, .bool y.gr, .bool y.gw])); simpa using hq, N0.out.2.1.step ss0 (by simp), N0.out.2.2.out1' ss0 (by have := HB.out; simp; omega)⟩
 have HSS := Lib.hid ss0
 rw [← hW]
 clear hW ss0
 have nc := (M.out.1).cell
 have n0 := nc 0
 have n1 := nc 1
 have n2 := nc 2
 have n3 := nc 3
 clear nc
 simp only [List.getElem?_toArray, List.getElem?_cons_zero, List.getElem?_cons_succ] at n0 n1 n2 n3
 have nl := (M.out.1).lt
 have zc := (M.out.2.1).cell
 have z0 := zc 0
 have z1 := zc 1
 have z2 := zc 2
 have z3 := zc 3
 clear zc
 simp only [List.getElem?_toArray, List.getElem?_cons_zero, List.getElem?_cons_succ] at z0 z1 z2 z3
 have zl := (M.out.2.1).lt
 have zfz := (M.out.2.1).frozen
 have zf0 := zfz 0
 have zf1 := zfz 1
 have zf2 := zfz 2
 have zf3 := zfz 3
 clear zfz
 go_wp2_with fail
 change bodyPost _ _ _ _ _ (putL W (b + 1) 0 [.int .i64 x.client, .int .i64 x.seq, .string ⟨x.token.toArray⟩, .iface 139 (.agg #[.int .i64 y.kind, .string ⟨y.name.toArray⟩, .string ⟨y.other.toArray⟩, .string ⟨y.word.toArray⟩, .string ⟨y.salt.toArray⟩, .int .i64 y.bytes, .int .i64 y.keys, .string ⟨y.gf.toArray⟩, .string ⟨y.gt.toArray⟩, .bool y.gr, .bool y.gw])])
 have Q := M.out.2.1.put0 [.int .i64 x.client, .int .i64 x.seq, .string ⟨x.token.toArray⟩, .iface 139 (.agg #[.int .i64 y.kind, .string ⟨y.name.toArray⟩, .string ⟨y.other.toArray⟩, .string ⟨y.word.toArray⟩, .string ⟨y.salt.toArray⟩, .int .i64 y.bytes, .int .i64 y.keys, .string ⟨y.gf.toArray⟩, .string ⟨y.gt.toArray⟩, .bool y.gr, .bool y.gw])] rfl
 have ss := step_putL (b + 1) [.int .i64 x.client, .int .i64 x.seq, .string ⟨x.token.toArray⟩, .iface 139 (.agg #[.int .i64 y.kind, .string ⟨y.name.toArray⟩, .string ⟨y.other.toArray⟩, .string ⟨y.word.toArray⟩, .string ⟨y.salt.toArray⟩, .int .i64 y.bytes, .int .i64 y.keys, .string ⟨y.gf.toArray⟩, .string ⟨y.gt.toArray⟩, .bool y.gr, .bool y.gw])] 0 W
 obtain ⟨U, hU⟩ : ∃ U, U = putL W (b + 1) 0 [.int .i64 x.client, .int .i64 x.seq, .string ⟨x.token.toArray⟩, .iface 139 (.agg #[.int .i64 y.kind, .string ⟨y.name.toArray⟩, .string ⟨y.other.toArray⟩, .string ⟨y.word.toArray⟩, .string ⟨y.salt.toArray⟩, .int .i64 y.bytes, .int .i64 y.keys, .string ⟨y.gf.toArray⟩, .string ⟨y.gt.toArray⟩, .bool y.gr, .bool y.gw])] := ⟨_, rfl⟩
 rw [← hU] at Q ss ⊢
 clear hU
 clear z0 z1 z2 z3 zl zf0 zf1 zf2 zf3
 clear n0 n1 n2 n3 nl
 have pc := (Q).cell
 have p0 := pc 0
 have p1 := pc 1
 have p2 := pc 2
 have p3 := pc 3
 clear pc
 simp only [List.getElem?_toArray, List.getElem?_cons_zero, List.getElem?_cons_succ] at p0 p1 p2 p3
 have pl := (Q).lt
 have so := M.out.2.2.out1' ss (by have := HB.out; simp; omega)
 refine bodyPost_ret (v := .tuple #[.agg #[.int .i64 x.client, .int .i64 x.seq, .string ⟨x.token.toArray⟩, .iface 139 (.agg #[.int .i64 y.kind, .string ⟨y.name.toArray⟩, .string ⟨y.other.toArray⟩, .string ⟨y.word.toArray⟩, .string ⟨y.salt.toArray⟩, .int .i64 y.bytes, .int .i64 y.keys, .string ⟨y.gf.toArray⟩, .string ⟨y.gt.toArray⟩, .bool y.gr, .bool y.gw])], .bool true]) ?_ rfl ⟨.agg #[.int .i64 x.client, .int .i64 x.seq, .string ⟨x.token.toArray⟩, .iface 139 (.agg #[.int .i64 y.kind, .string ⟨y.name.toArray⟩, .string ⟨y.other.toArray⟩, .string ⟨y.word.toArray⟩, .string ⟨y.salt.toArray⟩, .int .i64 y.bytes, .int .i64 y.keys, .string ⟨y.gf.toArray⟩, .string ⟨y.gt.toArray⟩, .bool y.gr, .bool y.gw])], rfl, ?_, so⟩
 ·simp [results, Try.results38, go_sem, p0, p1, p2, p3]
 ·have hn := clean_nolists (x := x) (by have := HK.out; omega)
  have hh := clean_head HIK.out
  rw [← HY.out] at hn hh ⊢
  have hky : y.kind = x.kind := by rw [HY.out]; exact clean_kind HIK.out
  have hk4 := HK.out
  refine ⟨by rw [hky]; exact HIK.out, by rw [HY.out]; exact clean_twice HIK.out, ⟨none, 0, none, 0, none, 0, ?_, RdC.nil _ _ hn.1 hn.2.1 hn.2.2⟩, by rw [HY.out]; exact HLN.out.clean⟩
  rw [bodyV, if_neg (by omega), if_neg (by omega), if_neg (by omega), rqV, hh.1, hh.2.1, hh.2.2]

set_option maxHeartbeats 8000000 in
theorem of2_any (x : Cm) (a1 a2 a3 : Option Addr) (c1 c2 c3 : Nat) (w : World) (hk : x.kind = 2) (hr : RdC w x a1 a2 a3) (hl : LenC x) : Calls Try.prog 38 #[cmV x (.slice a1 x.ifs.length c1) (.slice a2 x.thens.length c2) (.slice a3 x.elses.length c3)] w (OfPost x w) := by
 have HK := Lib.hid hk
 have k1 : (x.kind == 1) = false := by simp [hk]
 have k2 : (x.kind == 2) = true := by simp [hk]
 have k3 : (x.kind == 3) = false := by simp [hk]
 have HIK : Hid (isK x.kind = true) := Lib.hid (by simp [isK, hk])
 have HLN := Lib.hid hl
 have HR := Lib.hid hr
 clear hk hl hr
 go_enter Try.func38, Try.ntmps38
 go_upto_region 3 with fail
 obtain ⟨b, hb⟩ : ∃ b, b = w.heap.size := ⟨_, rfl⟩
 obtain ⟨V, hV⟩ : ∃ V, V = (((w.alloc (.cells #[.int .i64 x.client, .int .i64 x.seq, .string ⟨x.token.toArray⟩, .int .i64 x.kind, .string ⟨x.name.toArray⟩, .string ⟨x.other.toArray⟩, .string ⟨x.word.toArray⟩, .string ⟨x.salt.toArray⟩, .int .i64 x.bytes, .int .i64 x.keys, .string ⟨x.gf.toArray⟩, .string ⟨x.gt.toArray⟩, .bool x.gr, .bool x.gw, .int .i64 x.rev, .slice a1 x.ifs.length c1, .slice a2 x.thens.length c2, .slice a3 x.elses.length c3] 44)).alloc (.cells #[.int .i64 0, .int .i64 0, .string ⟨#[]⟩, .nilIface] 99)).alloc (.cells #[.int .i64 x.client, .int .i64 x.seq, .string ⟨x.token.toArray⟩, .nilIface] 99)) := ⟨_, rfl⟩
 have H1 : Hid (Blk V b 44 #[.int .i64 x.client, .int .i64 x.seq, .string ⟨x.token.toArray⟩, .int .i64 x.kind, .string ⟨x.name.toArray⟩, .string ⟨x.other.toArray⟩, .string ⟨x.word.toArray⟩, .string ⟨x.salt.toArray⟩, .int .i64 x.bytes, .int .i64 x.keys, .string ⟨x.gf.toArray⟩, .string ⟨x.gt.toArray⟩, .bool x.gr, .bool x.gw, .int .i64 x.rev, .slice a1 x.ifs.length c1, .slice a2 x.thens.length c2, .slice a3 x.elses.length c3] ∧ Blk V (b + 1) 99 #[.int .i64 0, .int .i64 0, .string ⟨#[]⟩, .nilIface] ∧ Blk V (b + 1 + 1) 99 #[.int .i64 x.client, .int .i64 x.seq, .string ⟨x.token.toArray⟩, .nilIface] ∧ Step [] [] w V ∧ b = w.heap.size) := by
  rw [hV, hb]
  have Q := blk3q w 44 99 99 #[.int .i64 x.client, .int .i64 x.seq, .string ⟨x.token.toArray⟩, .int .i64 x.kind, .string ⟨x.name.toArray⟩, .string ⟨x.other.toArray⟩, .string ⟨x.word.toArray⟩, .string ⟨x.salt.toArray⟩, .int .i64 x.bytes, .int .i64 x.keys, .string ⟨x.gf.toArray⟩, .string ⟨x.gt.toArray⟩, .bool x.gr, .bool x.gw, .int .i64 x.rev, .slice a1 x.ifs.length c1, .slice a2 x.thens.length c2, .slice a3 x.elses.length c3] #[.int .i64 0, .int .i64 0, .string ⟨#[]⟩, .nilIface] #[.int .i64 x.client, .int .i64 x.seq, .string ⟨x.token.toArray⟩, .nilIface]
  exact ⟨Q.1, Q.2.1, Q.2.2, (((Step.refl [] w).alloc _).alloc _).alloc _, rfl⟩
 rw [← hV, ← hb]
 clear hV hb
 have cc := (H1.out.1).cell
 have c0 := cc 0
 have c1 := cc 1
 have c2 := cc 2
 have c3 := cc 3
 have c4 := cc 4
 have c5 := cc 5
 have c6 := cc 6
 have c7 := cc 7
 have c8 := cc 8
 have c9 := cc 9
 have c10 := cc 10
 have c11 := cc 11
 have c12 := cc 12
 have c13 := cc 13
 have c14 := cc 14
 have c15 := cc 15
 have c16 := cc 16
 have c17 := cc 17
 clear cc
 simp only [List.getElem?_toArray, List.getElem?_cons_zero, List.getElem?_cons_succ] at c0 c1 c2 c3 c4 c5 c6 c7 c8 c9 c10 c11 c12 c13 c14 c15 c16 c17
 have cl := (H1.out.1).lt
 go_upto_region 6 with fail
 clear c0 c1 c2 c3 c4 c5 c6 c7 c8 c9 c10 c11 c12 c13 c14 c15 c16 c17 cl
 have HST := Lib.hid H1.out.2.2.2.1.drew
 refine wp_region_held_drew (S := fun V => Hid (Blk V b 44 #[.int .i64 x.client, .int .i64 x.seq, .string ⟨x.token.toArray⟩, .int .i64 x.kind, .string ⟨x.name.toArray⟩, .string ⟨x.other.toArray⟩, .string ⟨x.word.toArray⟩, .string ⟨x.salt.toArray⟩, .int .i64 x.bytes, .int .i64 x.keys, .string ⟨x.gf.toArray⟩, .string ⟨x.gt.toArray⟩, .bool x.gr, .bool x.gw, .int .i64 x.rev, .slice a1 x.ifs.length c1, .slice a2 x.thens.length c2, .slice a3 x.elses.length c3])) (by kernel_rfl) (Lib.hid H1.out.1.drew) (fun hHeld => ?_)
 refine wpAnyH_take (i := 0) (v := ?_) rfl (by kernel_rfl) (by kernel_rfl) (by kernel_rfl) (fun _ _ _ h => h) (Or.inl ⟨by rfl, ?_⟩) hHeld ?_
 rotate_left
 ·intro w hSw1
  try dsimp only at hSw1
  go_simp
  try (with_reducible rfl)
 try simp only [Act.put, LsA, LsB, LsC, LsD, LsE, LsF]
 refine wpAnyH_take (i := 1) (v := ?_) rfl (by kernel_rfl) (by kernel_rfl) (by kernel_rfl) (fun _ _ _ h => h) (Or.inl ⟨by rfl, ?_⟩) hHeld ?_
 rotate_left
 ·intro w hSw1
  have c15 := hSw1.out.cell 15
  have c16 := hSw1.out.cell 16
  have c17 := hSw1.out.cell 17
  simp only [List.getElem?_toArray, List.getElem?_cons_zero, List.getElem?_cons_succ] at c15 c16 c17
  have cl := hSw1.out.lt
  go_simp
  try (with_reducible rfl)
 try simp only [Act.put, LsA, LsB, LsC, LsD, LsE, LsF]
 refine wpAnyH_take (i := 3) (v := ?_) rfl (by kernel_rfl) (by kernel_rfl) (by kernel_rfl) (fun _ _ _ h => h) (Or.inl ⟨by rfl, ?_⟩) hHeld ?_
 rotate_left
 ·intro w hSw1
  try dsimp only at hSw1
  go_simp
  try (with_reducible rfl)
 try simp only [Act.put, LsA, LsB, LsC, LsD, LsE, LsF]
 refine wpAnyH_take (i := 4) (v := ?_) rfl (by kernel_rfl) (by kernel_rfl) (by kernel_rfl) (fun _ _ _ h => h) (Or.inl ⟨by rfl, ?_⟩) hHeld ?_
 rotate_left
 ·intro w hSw1
  have c15 := hSw1.out.cell 15
  have c16 := hSw1.out.cell 16
  have c17 := hSw1.out.cell 17
  simp only [List.getElem?_toArray, List.getElem?_cons_zero, List.getElem?_cons_succ] at c15 c16 c17
  have cl := hSw1.out.lt
  go_simp
  try (with_reducible rfl)
 try simp only [Act.put, LsA, LsB, LsC, LsD, LsE, LsF]
 refine wpAnyH_take (i := 6) (v := ?_) rfl (by kernel_rfl) (by kernel_rfl) (by kernel_rfl) (fun _ _ _ h => h) (Or.inl ⟨by rfl, ?_⟩) hHeld ?_
 rotate_left
 ·intro w hSw1
  try dsimp only at hSw1
  go_simp
  try (with_reducible rfl)
 try simp only [Act.put, LsA, LsB, LsC, LsD, LsE, LsF]
 refine wpAnyH_take (i := 7) (v := ?_) rfl (by kernel_rfl) (by kernel_rfl) (by kernel_rfl) (fun _ _ _ h => h) (Or.inl ⟨by rfl, ?_⟩) hHeld ?_
 rotate_left
 ·intro w hSw1
  have c15 := hSw1.out.cell 15
  have c16 := hSw1.out.cell 16
  have c17 := hSw1.out.cell 17
  simp only [List.getElem?_toArray, List.getElem?_cons_zero, List.getElem?_cons_succ] at c15 c16 c17
  have cl := hSw1.out.lt
  go_simp
  try (with_reducible rfl)
 try simp only [Act.put, LsA, LsB, LsC, LsD, LsE, LsF]
 refine wpAnyH_ready (rs := [2]) (by kernel_rfl) (by simp) ?_
 refine AllReadyH.cons rfl (fun K hK => ?_) AllReadyH.nil
 go_simp
 refine (cloneP_any x.ifs a1 c1 _ (HR.out.i.step0 HST.out) HLN.out.i).mono ?_; rintro e X1 ⟨d1, e1, rfl, r1, k1⟩; have G1 : Hid (Blk X1 b 44 #[.int .i64 x.client, .int .i64 x.seq, .string ⟨x.token.toArray⟩, .int .i64 x.kind, .string ⟨x.name.toArray⟩, .string ⟨x.other.toArray⟩, .string ⟨x.word.toArray⟩, .string ⟨x.salt.toArray⟩, .int .i64 x.bytes, .int .i64 x.keys, .string ⟨x.gf.toArray⟩, .string ⟨x.gt.toArray⟩, .bool x.gr, .bool x.gw, .int .i64 x.rev, .slice a1 x.ifs.length c1, .slice a2 x.thens.length c2, .slice a3 x.elses.length c3] ∧ Rd X1 4 d1 x.ifs.length (cpcs x.ifs) ∧ Step [] [] V X1) := ⟨hHeld.out.step k1 (by simp), r1, ((Step.refl [] V).drew.trans k1).drop (by simp)⟩; have F1 : Hid (∀ g ∈ blks d1, V.heap.size ≤ g) := fun g hg => (by rcases k1.fresh g hg with h | h <;> first | exact h | cases h); clear r1 k1
 go_wp2_with fail
 refine hK.out _ _ (Lib.hid G1.out.1) (fun hHeld2 => ?_)
 clear hK K hHeld
 try simp only [Act.put, LsA, LsB, LsC, LsD, LsE, LsF]
 refine wpAnyH_ready (rs := [5]) (by kernel_rfl) (by simp) ?_
 refine AllReadyH.cons rfl (fun K hK => ?_) AllReadyH.nil
 go_simp
 refine (plains_any x.thens a2 c2 _ (HR.out.t.step0 (H1.out.2.2.2.1.trans G1.out.2.2)) HLN.out.t).mono ?_; rintro e X2 ⟨d2, e2, rfl, r2, k2⟩; have G2 : Hid (Blk X2 b 44 #[.int .i64 x.client, .int .i64 x.seq, .string ⟨x.token.toArray⟩, .int .i64 x.kind, .string ⟨x.name.toArray⟩, .string ⟨x.other.toArray⟩, .string ⟨x.word.toArray⟩, .string ⟨x.salt.toArray⟩, .int .i64 x.bytes, .int .i64 x.keys, .string ⟨x.gf.toArray⟩, .string ⟨x.gt.toArray⟩, .bool x.gr, .bool x.gw, .int .i64 x.rev, .slice a1 x.ifs.length c1, .slice a2 x.thens.length c2, .slice a3 x.elses.length c3] ∧ Rd X2 4 d1 x.ifs.length (cpcs x.ifs) ∧ Rd X2 7 d2 x.thens.length (dacs (x.thens.map actL)) ∧ Step [] [] V X2) := ⟨hHeld2.out.step k2 (by simp), G1.out.2.1.step0 k2, r2, (G1.out.2.2.trans k2).drop (by simp)⟩; have F2 : Hid (∀ g ∈ blks d2, V.heap.size ≤ g) := fun g hg => (by rcases k2.fresh g hg with h | h <;> first | exact Nat.le_trans G1.out.2.2.size h | cases h); clear r2 k2
 go_wp2_with fail
 refine hK.out _ _ (Lib.hid G2.out.1) (fun hHeld3 => ?_)
 clear hK K hHeld2
 try simp only [Act.put, LsA, LsB, LsC, LsD, LsE, LsF]
 refine wpAnyH_ready (rs := [8]) (by kernel_rfl) (by simp) ?_
 refine AllReadyH.cons rfl (fun K hK => ?_) AllReadyH.nil
 go_simp
 refine (plains_any x.elses a3 c3 _ (HR.out.e.step0 (H1.out.2.2.2.1.trans G2.out.2.2.2)) HLN.out.e).mono ?_; rintro e X3 ⟨d3, e3, rfl, r3, k3⟩; have G3 : Hid (Blk X3 b 44 #[.int .i64 x.client, .int .i64 x.seq, .string ⟨x.token.toArray⟩, .int .i64 x.kind, .string ⟨x.name.toArray⟩, .string ⟨x.other.toArray⟩, .string ⟨x.word.toArray⟩, .string ⟨x.salt.toArray⟩, .int .i64 x.bytes, .int .i64 x.keys, .string ⟨x.gf.toArray⟩, .string ⟨x.gt.toArray⟩, .bool x.gr, .bool x.gw, .int .i64 x.rev, .slice a1 x.ifs.length c1, .slice a2 x.thens.length c2, .slice a3 x.elses.length c3] ∧ Rd X3 4 d1 x.ifs.length (cpcs x.ifs) ∧ Rd X3 7 d2 x.thens.length (dacs (x.thens.map actL)) ∧ Rd X3 7 d3 x.elses.length (dacs (x.elses.map actL)) ∧ Step [] [] V X3) := ⟨hHeld3.out.step k3 (by simp), G2.out.2.1.step0 k3, G2.out.2.2.1.step0 k3, r3, (G2.out.2.2.2.trans k3).drop (by simp)⟩; have F3 : Hid (∀ g ∈ blks d3, V.heap.size ≤ g) := fun g hg => (by rcases k3.fresh g hg with h | h <;> first | exact Nat.le_trans G2.out.2.2.2.size h | cases h); clear r3 k3; have N0 : Hid (Blk X3 (b + 1 + 1) 99 #[.int .i64 x.client, .int .i64 x.seq, .string ⟨x.token.toArray⟩, .nilIface] ∧ Blk X3 (b + 1) 99 #[.int .i64 0, .int .i64 0, .string ⟨#[]⟩, .nilIface] ∧ Step [] [] w X3) := ⟨H1.out.2.2.1.step G3.out.2.2.2.2 (by simp), H1.out.2.1.step G3.out.2.2.2.2 (by simp), H1.out.2.2.2.1.trans G3.out.2.2.2.2⟩; have rc := (N0.out.1).cell; have r0 := rc 0; have r1 := rc 1; have r2 := rc 2; have r3 := rc 3; clear rc; simp only [List.getElem?_toArray, List.getElem?_cons_zero, List.getElem?_cons_succ] at r0 r1 r2 r3; have rl := (N0.out.1).lt; have rfz := (N0.out.1).frozen; have rf0 := rfz 0; have rf1 := rfz 1; have rf2 := rfz 2; have rf3 := rfz 3; clear rfz
 go_wp2_with fail
 refine hK.out _ _ (Lib.hid G3.out.1) (fun hHeld4 => ?_)
 clear hK K hHeld3
 try simp only [Act.put, LsA, LsB, LsC, LsD, LsE, LsF]
 refine wpAnyH_take (i := 9) (v := ?_) rfl (by kernel_rfl) (by kernel_rfl) (by kernel_rfl) (fun _ _ _ h => h) (Or.inl ⟨by rfl, ?_⟩) hHeld4 ?_
 rotate_left
 ·intro w hSw1
  try dsimp only at hSw1
  go_simp
  try (with_reducible rfl)
 try simp only [Act.put, LsA, LsB, LsC, LsD, LsE, LsF]
 refine wpAnyH_take (i := 10) (v := ?_) rfl (by kernel_rfl) (by kernel_rfl) (by kernel_rfl) (fun _ _ _ h => h) (Or.inl ⟨by rfl, ?_⟩) hHeld4 ?_
 rotate_left
 ·intro w hSw1
  try dsimp only at hSw1
  go_simp
  try (with_reducible rfl)
 try simp only [Act.put, LsA, LsB, LsC, LsD, LsE, LsF]
 refine wpAnyH_take (i := 11) (v := ?_) rfl (by kernel_rfl) (by kernel_rfl) (by kernel_rfl) (fun _ _ _ h => h) (Or.inl ⟨by rfl, ?_⟩) hHeld4 ?_
 rotate_left
 ·intro w hSw1
  try dsimp only at hSw1
  go_simp
  try (with_reducible rfl)
 try simp only [Act.put, LsA, LsB, LsC, LsD, LsE, LsF]
 refine wpAnyH_ready (rs := [12]) (by kernel_rfl) (by simp) ?_
 refine AllReadyH.cons rfl (fun K hK => ?_) AllReadyH.nil
 go_simp
 skip
 go_wp2_with fail
 refine hK.out _ _ (Lib.hid (Blk.far (p := ⟨b + 1 + 1, 3, none⟩) hHeld4.out (by simp; omega) _)) (fun hHeld5 => ?_)
 clear hK K hHeld4
 try simp only [Act.put, LsA, LsB, LsC, LsD, LsE, LsF]
 refine wpAnyH_done (by kernel_rfl) ?_ _
 have HB := Lib.hid H1.out.2.2.2.2
 go_upto_region 11 with fail
 clear r0 r1 r2 r3 rl rf0 rf1 rf2 rf3
 obtain ⟨W, hW⟩ : ∃ W, W = X3.setCell ⟨b + 1 + 1, 3, none⟩ (.iface 134 (.agg #[.slice d1 x.ifs.length e1, .slice d2 x.thens.length e2, .slice d3 x.elses.length e3])) := ⟨_, rfl⟩
 have ss0 : Step [b + 1 + 1] [b + 1 + 1] X3 W := by
  rw [hW]
  exact (Step.refl _ _).setCell (.inl (by simp)) _
 have M : Hid (Blk W (b + 1 + 1) 99 #[.int .i64 x.client, .int .i64 x.seq, .string ⟨x.token.toArray⟩, .iface 134 (.agg #[.slice d1 x.ifs.length e1, .slice d2 x.thens.length e2, .slice d3 x.elses.length e3])] ∧ Blk W (b + 1) 99 #[.int .i64 0, .int .i64 0, .string ⟨#[]⟩, .nilIface] ∧ Step [] [] w W) := ⟨by rw [hW]; have hq := N0.out.1.set 3 (.iface 134 (.agg #[.slice d1 x.ifs.length e1, .slice d2 x.thens.length e2, .slice d3 x.elses.length e3])); simpa using hq, N0.out.2.1.step ss0 (by simp), N0.out.2.2.out1' ss0 (by have := HB.out; simp; omega)⟩
 have HSS := Lib.hid ss0
 rw [← hW]
 clear hW ss0
 have nc := (M.out.1).cell
 have n0 := nc 0
 have n1 := nc 1
 have n2 := nc 2
 have n3 := nc 3
 clear nc
 simp only [List.getElem?_toArray, List.getElem?_cons_zero, List.getElem?_cons_succ] at n0 n1 n2 n3
 have nl := (M.out.1).lt
 have zc := (M.out.2.1).cell
 have z0 := zc 0
 have z1 := zc 1
 have z2 := zc 2
 have z3 := zc 3
 clear zc
 simp only [List.getElem?_toArray, List.getElem?_cons_zero, List.getElem?_cons_succ] at z0 z1 z2 z3
 have zl := (M.out.2.1).lt
 have zfz := (M.out.2.1).frozen
 have zf0 := zfz 0
 have zf1 := zfz 1
 have zf2 := zfz 2
 have zf3 := zfz 3
 clear zfz
 go_wp2_with fail
 change bodyPost _ _ _ _ _ (putL W (b + 1) 0 [.int .i64 x.client, .int .i64 x.seq, .string ⟨x.token.toArray⟩, .iface 134 (.agg #[.slice d1 x.ifs.length e1, .slice d2 x.thens.length e2, .slice d3 x.elses.length e3])])
 have Q := M.out.2.1.put0 [.int .i64 x.client, .int .i64 x.seq, .string ⟨x.token.toArray⟩, .iface 134 (.agg #[.slice d1 x.ifs.length e1, .slice d2 x.thens.length e2, .slice d3 x.elses.length e3])] rfl
 have ss := step_putL (b + 1) [.int .i64 x.client, .int .i64 x.seq, .string ⟨x.token.toArray⟩, .iface 134 (.agg #[.slice d1 x.ifs.length e1, .slice d2 x.thens.length e2, .slice d3 x.elses.length e3])] 0 W
 obtain ⟨U, hU⟩ : ∃ U, U = putL W (b + 1) 0 [.int .i64 x.client, .int .i64 x.seq, .string ⟨x.token.toArray⟩, .iface 134 (.agg #[.slice d1 x.ifs.length e1, .slice d2 x.thens.length e2, .slice d3 x.elses.length e3])] := ⟨_, rfl⟩
 rw [← hU] at Q ss ⊢
 clear hU
 clear z0 z1 z2 z3 zl zf0 zf1 zf2 zf3
 clear n0 n1 n2 n3 nl
 have pc := (Q).cell
 have p0 := pc 0
 have p1 := pc 1
 have p2 := pc 2
 have p3 := pc 3
 clear pc
 simp only [List.getElem?_toArray, List.getElem?_cons_zero, List.getElem?_cons_succ] at p0 p1 p2 p3
 have pl := (Q).lt
 have so := M.out.2.2.out1' ss (by have := HB.out; simp; omega)
 refine bodyPost_ret (v := .tuple #[.agg #[.int .i64 x.client, .int .i64 x.seq, .string ⟨x.token.toArray⟩, .iface 134 (.agg #[.slice d1 x.ifs.length e1, .slice d2 x.thens.length e2, .slice d3 x.elses.length e3])], .bool true]) ?_ rfl ⟨.agg #[.int .i64 x.client, .int .i64 x.seq, .string ⟨x.token.toArray⟩, .iface 134 (.agg #[.slice d1 x.ifs.length e1, .slice d2 x.thens.length e2, .slice d3 x.elses.length e3])], rfl, ?_, so⟩
 ·simp [results, Try.results38, go_sem, p0, p1, p2, p3]
 ·have hh := clean_head HIK.out
  have hc : (cleanC x).ifs = x.ifs ∧ (cleanC x).thens = x.thens.map actL ∧ (cleanC x).elses = x.elses.map actL := by simp [cleanC, onlyC, isK, hasT, HK.out]
  have hlt := H1.out.2.2.1.lt
  refine ⟨by rw [clean_kind HIK.out]; exact HIK.out, clean_twice HIK.out, ⟨d1, e1, d2, e2, d3, e3, ?_, ?_⟩, HLN.out.clean⟩
  ·simp [rqV, bodyV, cleanC, onlyC, isK, hasT, HK.out]
  ·refine ⟨?_, ?_, ?_⟩
   ·rw [hc.1]
    exact (G3.out.2.1.step HSS.out (fun g hg e => by have := F1.out g hg; simp at e; omega)).step ss (fun g hg e => by have := F1.out g hg; simp at e; omega)
   ·rw [hc.2.1, List.length_map]
    exact (G3.out.2.2.1.step HSS.out (fun g hg e => by have := F2.out g hg; simp at e; omega)).step ss (fun g hg e => by have := F2.out g hg; simp at e; omega)
   ·rw [hc.2.2, List.length_map]
    exact (G3.out.2.2.2.1.step HSS.out (fun g hg e => by have := F3.out g hg; simp at e; omega)).step ss (fun g hg e => by have := F3.out g hg; simp at e; omega)

theorem of_any (x : Cm) (a1 a2 a3 : Option Addr) (c1 c2 c3 : Nat) (w : World) (hk : isK x.kind = true) (hr : RdC w x a1 a2 a3) (hl : LenC x) : Calls Try.prog 38 #[cmV x (.slice a1 x.ifs.length c1) (.slice a2 x.thens.length c2) (.slice a3 x.elses.length c3)] w (OfPost x w) := by
 rcases isK_cases hk with h | h | h | h
 ·exact of1_any x a1 a2 a3 c1 c2 c3 w h hl
 ·exact of2_any x a1 a2 a3 c1 c2 c3 w h hr hl
 ·exact of3_any x a1 a2 a3 c1 c2 c3 w h hl
 ·exact ofA_any x a1 a2 a3 c1 c2 c3 w h hl
end Go.Proofs.Ytjfaplmojpldhaa
