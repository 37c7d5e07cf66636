/-
  The reference's Read. Condition: at most 20000 bytes.
-/
import Derived.Test.YtifjnpdnnfdcoaaReqReadS
import Derived.Test.YtifjnpdnnfdcoaaReqO
import Derived.Test.YtifjnpdnnfdcoaaReqV
import Derived.Deep.DeepCutAuto
import Derived.Deep.CutBlock
namespace Go.Proofs.Ytifjnpdnnfdcoaa
open Go.RowKit
set_option linter.unusedSimpArgs false
set_option linter.unusedVariables false
set_option maxRecDepth 100000

theorem ifs_nil (x : Cm) (h : x.ifs = []) : ({x with ifs := []} : Cm) = x := by
  cases x
  simp only at h
  subst h
  rfl
theorem fT_t (s : RS) : fT true s = rtext s mostN := rfl
theorem fN_t (s : RS) : fN true s = upto s mostN := rfl
theorem fF_t (s : RS) : fF true s = rflag s := rfl
theorem fC_t (s : RS) : fC true s = rdCmpsF s := rfl
theorem fA_t (s : RS) : fA true s = rdActsF s := rfl
section
variable {w0 w w' : World} {K : List (Nat × TypeId × Array Value)} {p br eb : Nat} {st : RS} {x : Cm} {a1 a2 a3 : Option Addr} {c1 c2 c3 : Nat} {T : TypeId} {cs cs' : Array Value}
theorem df_text (h : Df w0 w K p br st x a1 a2 a3 c1 c2 c3) (m : Int) : Calls Try.prog 61 #[.pointer (some ⟨p, 0, none⟩), .int .i64 m] w fun e w' => e = .returned (Str (rtext st m).1) ∧ Df w0 w' K p br (rtext st m).2 x a1 a2 a3 c1 c2 c3 := by
  refine (refText_any p st m w h.base.rdr (by have := h.base.len; omega)).mono ?_
  rintro e w' ⟨he, g, k⟩
  exact ⟨he, h.read g k (rtext_len3 st _)⟩
def DfActsP (w0 : World) (K : List (Nat × TypeId × Array Value)) (p br : Nat) (st : RS) (x : Cm) (a1 a2 a3 : Option Addr) (c1 c2 c3 : Nat) (e : Ending) (w' : World) : Prop :=
  ∃ a cap, e = .returned (.slice a (rdActsF st).1.length cap) ∧ Df w0 w' K p br (rdActsF st).2 x a1 a2 a3 c1 c2 c3 ∧ Rd w' 7 a (rdActsF st).1.length (dacs (rdActsF st).1) ∧ (∀ g ∈ blks a, g ≠ p ∧ g ≠ br ∧ ∀ q ∈ K, g ≠ q.1)
theorem df_acts (h : Df w0 w K p br st x a1 a2 a3 c1 c2 c3) : Calls Try.prog 63 #[.pointer (some ⟨p, 0, none⟩)] w (DfActsP w0 K p br st x a1 a2 a3 c1 c2 c3) := by
  refine (rdactsF_any p st w h.base.rdr h.base.len).mono ?_
  rintro e w' ⟨a, cap, he, hr, g, k, hf⟩
  refine ⟨a, cap, he, h.read g k (rdActsF_slen st), hr, fun g hg => ?_⟩
  have := hf g hg
  have l1 := Blk.lt h.base.rdr
  have l2 := h.cmd.lt
  refine ⟨by omega, by omega, fun q hq => ?_⟩
  have l3 := (h.base.blk q (List.mem_cons_of_mem _ hq)).1.lt
  omega
/-- A block more besides. -/
theorem Df.box (h : Df w0 w K p br st x a1 none none c1 0 0) (T : TypeId) (cs : Array Value) : Df w0 (w.alloc (.cells cs T)) ((w.heap.size, T, cs) :: K) p br st x a1 none none c1 0 0 := by
  have k := (Step.refl [] w).alloc (.cells cs T)
  refine ⟨⟨Ref.step h.base.rdr k (by simp), fun q hq => ?_, h.base.out.trans k, h.base.fp, h.base.len⟩, fun q hq => ?_, h.i.alloc _, h.t.alloc _, h.e.alloc _, fun g hg => ⟨(h.di g hg).1, (h.di g hg).2.1, (h.di g hg).2.2.1, fun q hq => ?_⟩, by simp [blks], by simp [blks]⟩
  · rcases List.mem_cons.1 hq with rfl | hq
    · exact ⟨h.cmd.alloc _, (h.base.blk _ (List.mem_cons_self ..)).2⟩
    · rcases List.mem_cons.1 hq with rfl | hq
      · exact ⟨Blk.new w T cs, by have := Blk.lt h.base.rdr; simp only; omega, h.base.out.size⟩
      · have := h.base.blk q (List.mem_cons_of_mem _ hq)
        exact ⟨this.1.alloc _, this.2⟩
  · rcases List.mem_cons.1 hq with rfl | hq
    · have := h.cmd.lt; simp only; omega
    · exact h.ne q hq
  · rcases List.mem_cons.1 hq with rfl | hq
    · have := h.i.lt g hg; simp only; omega
    · exact (h.di g hg).2.2.2 q hq
theorem Df.putK (h : Df w0 w ((eb, T, cs) :: K) p br st x a1 none none c1 0 0) (ss : Step [eb] [eb] w w') (hb : Blk w' eb T cs') (hK : ∀ q ∈ K, q.1 ≠ eb) : Df w0 w' ((eb, T, cs') :: K) p br st x a1 none none c1 0 0 := by
  have fe := h.base.blk (eb, T, cs) (List.mem_cons_of_mem _ (List.mem_cons_self ..))
  have ne := h.ne (eb, T, cs) (List.mem_cons_self ..)
  refine ⟨⟨Ref.step h.base.rdr ss (by simpa using fe.2.1.symm), fun q hq => ?_, h.base.out.own ss fe.2.2, h.base.fp, h.base.len⟩, fun q hq => ?_, h.i.step ss (fun g hg => by simpa using (h.di g hg).2.2.2 _ (List.mem_cons_self ..)), h.t.step ss (by simp [blks]), h.e.step ss (by simp [blks]), fun g hg => ⟨(h.di g hg).1, (h.di g hg).2.1, (h.di g hg).2.2.1, fun q hq => ?_⟩, by simp [blks], by simp [blks]⟩
  · rcases List.mem_cons.1 hq with rfl | hq
    · exact ⟨h.cmd.step ss (by simpa using ne.symm), (h.base.blk _ (List.mem_cons_self ..)).2⟩
    · rcases List.mem_cons.1 hq with rfl | hq
      · exact ⟨hb, fe.2⟩
      · have := h.base.blk q (List.mem_cons_of_mem _ (List.mem_cons_of_mem _ hq))
        exact ⟨this.1.step ss (by simpa using hK q hq), this.2⟩
  · rcases List.mem_cons.1 hq with rfl | hq
    · exact ne
    · exact h.ne q (List.mem_cons_of_mem _ hq)
  · rcases List.mem_cons.1 hq with rfl | hq
    · exact (h.di g hg).2.2.2 (eb, T, cs) (List.mem_cons_self ..)
    · exact (h.di g hg).2.2.2 q (List.mem_cons_of_mem _ hq)
theorem Df.dropK (h : Df w0 w ((eb, T, cs) :: K) p br st x a1 a2 a3 c1 c2 c3) : Df w0 w K p br st x a1 a2 a3 c1 c2 c3 :=
  ⟨⟨h.base.rdr, fun q hq => by
    rcases List.mem_cons.1 hq with rfl | hq
    · exact h.base.blk _ (List.mem_cons_self ..)
    · exact h.base.blk q (List.mem_cons_of_mem _ (List.mem_cons_of_mem _ hq)), h.base.out, h.base.fp, h.base.len⟩, fun q hq => h.ne q (List.mem_cons_of_mem _ hq), h.i, h.t, h.e, fun g hg => ⟨(h.di g hg).1, (h.di g hg).2.1, (h.di g hg).2.2.1, fun q hq => (h.di g hg).2.2.2 q (List.mem_cons_of_mem _ hq)⟩, h.dt, h.de⟩
end
theorem Df.init (w : World) (s : List UInt8) (hs : s.length ≤ 1099511627776) : Df w (((w.alloc (.cells cmZ18 29)).alloc (.cells #[Str s, .bool false] 120)).alloc (.cells cmZ18 29)) [(w.heap.size, 29, cmZ18)] (w.heap.size + 1) (w.heap.size + 1 + 1) ⟨s, false⟩ cmZ none none none 0 0 0 := by
  have B := blk3q w 29 120 29 cmZ18 #[Str s, .bool false] cmZ18
  refine ⟨⟨B.2.1, fun q hq => ?_, (((Step.refl [] w).alloc _).alloc _).alloc _, by omega, hs⟩, fun q hq => ?_, Row.none _ 4, (Row.none _ 7).rd, (Row.none _ 7).rd, by simp [blks], by simp [blks], by simp [blks]⟩
  · rcases List.mem_cons.1 hq with rfl | hq
    · exact ⟨B.2.2, by simp only; omega, by simp only; omega⟩
    · simp at hq
      subst hq
      exact ⟨B.1, by simp only; omega, by simp⟩
  · simp at hq
    subst hq
    simp only
    omega
theorem hasq78 (k : Int) (w : World) : Calls Try.prog 43 #[.int .i64 k, .int .u8 78] w fun e w' => e = .returned (.bool (hasL k 78)) ∧ Step [] [] w w' := has_any k 78 w
theorem hasq79 (k : Int) (w : World) : Calls Try.prog 43 #[.int .i64 k, .int .u8 79] w fun e w' => e = .returned (.bool (hasL k 79)) ∧ Step [] [] w w' := has_any k 79 w
theorem hasq87 (k : Int) (w : World) : Calls Try.prog 43 #[.int .i64 k, .int .u8 87] w fun e w' => e = .returned (.bool (hasL k 87)) ∧ Step [] [] w w' := has_any k 87 w
theorem hasq83 (k : Int) (w : World) : Calls Try.prog 43 #[.int .i64 k, .int .u8 83] w fun e w' => e = .returned (.bool (hasL k 83)) ∧ Step [] [] w w' := has_any k 83 w
theorem hasq81 (k : Int) (w : World) : Calls Try.prog 43 #[.int .i64 k, .int .u8 81] w fun e w' => e = .returned (.bool (hasL k 81)) ∧ Step [] [] w w' := has_any k 81 w
theorem hasq82 (k : Int) (w : World) : Calls Try.prog 43 #[.int .i64 k, .int .u8 82] w fun e w' => e = .returned (.bool (hasL k 82)) ∧ Step [] [] w w' := has_any k 82 w
theorem hasq71 (k : Int) (w : World) : Calls Try.prog 43 #[.int .i64 k, .int .u8 71] w fun e w' => e = .returned (.bool (hasL k 71)) ∧ Step [] [] w w' := has_any k 71 w
theorem hasq80 (k : Int) (w : World) : Calls Try.prog 43 #[.int .i64 k, .int .u8 80] w fun e w' => e = .returned (.bool (hasL k 80)) ∧ Step [] [] w w' := has_any k 80 w
theorem hasq84 (k : Int) (w : World) : Calls Try.prog 43 #[.int .i64 k, .int .u8 84] w fun e w' => e = .returned (.bool (hasL k 84)) ∧ Step [] [] w w' := has_any k 84 w
def rright : Nat → Code → Code
  | 0, c => c
  | n + 1, .seq _ b => rright n b
  | _, c => c
/-- What the reference's Read answers. -/
def RefRP (s : List UInt8) (y : Cm) (sf : RS) (w : World) (e : Ending) (w' : World) : Prop :=
  Step [] [] w w' ∧ ((rend sf = 0 ∧ refBq y = (s, 0) ∧ ∃ a1 c1 a2 c2 a3 c3, e = .returned (.tuple #[cmV y (.slice a1 y.ifs.length c1) (.slice a2 y.thens.length c2) (.slice a3 y.elses.length c3), .bool true]) ∧ RdC w' y a1 a2 a3) ∨
    (¬ (rend sf = 0 ∧ refBq y = (s, 0)) ∧ e = .returned (.tuple #[.agg cmZ18, .bool false])))
section
variable {u1 u3 u6 u7 u8 u9 u10 u11 u12 u13 u14 u15 u16 u17 u18 u19 u20 u21 u22 u23 u24 u25 u26 u27 u28 u29 u30 u31 u32 u33 u34 u35 u36 u37 u38 u39 u40 u41 u42 u43 u44 u45 u46 u47 u48 u49 u50 u51 u52 u53 u54 u55 u56 u57 u58 u59 u60 u61 u62 u63 u64 u65 u66 u67 u68 u69 u70 u71 u72 u73 u74 u75 u76 u77 u78 u79 u80 u81 u82 u83 u84 u85 u86 u87 u88 u89 u90 u91 u92 u93 u94 u95 u96 u97 u98 u99 u100 u101 u102 u103 u104 u105 u106 u107 u108 u109 u110 u111 u112 u113 u114 u115 u116 u117 u118 u119 u120 u121 u122 u123 u124 u125 u126 u127 u128 u129 u130 u131 u132 u133 u134 u135 u136 u137 u138 u139 u140 u141 u142 u143 u144 u145 u146 u147 u148 u149 u150 u151 u152 u153 u154 u155 : Value}
set_option maxHeartbeats 16000000 in
theorem rrd9 {s : List UInt8} {w V : World} {rb p br : Nat} {y : Cm} {sf : RS} {a1 a2 a3 : Option Addr} {c1 c2 c3 : Nat} (HZ : Hid ((CmB y ∧ LenS y) ∧ rb ≠ br))
    (H : Hid (Df w V [(rb, 29, cmZ18)] p br sf y a1 a2 a3 c1 c2 c3)) (HF : Hid (∀ g, (g ∈ blks a1 ∨ g ∈ blks a2 ∨ g ∈ blks a3) → g ≠ rb)) :
    Code.wp Try.prog (rright 16 (Try.f19.body.getD .skip)) (bodyPost Try.prog Try.f19 (RefRP s y sf w)) { tmps := #[Str s, u1, .pointer (some ⟨rb, 0, none⟩), u3, .pointer (some ⟨p, 0, none⟩), .pointer (some ⟨br, 0, none⟩), u6, u7, u8, u9, u10, u11, u12, u13, u14, u15, u16, u17, u18, u19, u20, u21, u22, u23, u24, u25, u26, u27, u28, u29, u30, u31, u32, u33, u34, u35, u36, u37, u38, u39, u40, u41, u42, u43, u44, u45, u46, u47, u48, u49, u50, u51, u52, u53, u54, u55, u56, u57, u58, u59, u60, u61, u62, u63, u64, u65, u66, u67, u68, u69, u70, u71, u72, u73, u74, u75, u76, u77, u78, u79, u80, u81, u82, u83, u84, u85, u86, u87, u88, u89, u90, u91, u92, u93, u94, u95, u96, u97, u98, u99, u100, u101, u102, u103, u104, u105, u106, u107, u108, u109, u110, u111, u112, u113, u114, u115, u116, u117, u118, u119, u120, u121, u122, u123, u124, u125, u126, u127, u128, u129, u130, u131, u132, u133, u134, u135, u136, u137, u138, u139, u140, u141, u142, u143, u144, u145, u146, u147, u148, u149, u150, u151, u152, u153, u154, u155], defers := [] } V := by
  conv => arg 2; whnf
  go_wp2_with (refine wpList_loadRow (T := 29) (b := br) (T' := 29) (cs := (cmc y (.slice a1 y.ifs.length c1) (.slice a2 y.thens.length c2) (.slice a3 y.elses.length c3)).toArray) rfl (.tmp 5) rfl rfl Try.sCmd H.out.cmd ?_)
  refine (rbytes_any y a1 a2 a3 c1 c2 c3 V H.out.rdc HZ.out.1.1 HZ.out.1.2).mono ?_
  rintro e X1 ⟨rfl, kk⟩
  have H1 := Lib.hid (H.out.quiet kk)
  clear kk
  have HSO : Hid (w.heap.size ≤ rb) := Lib.hid (H.out.base.blk _ (List.mem_cons_of_mem _ (List.mem_cons_self ..))).2.2
  obtain ⟨⟨t, e⟩, hte⟩ : ∃ q, q = refBq y := ⟨_, rfl⟩
  rw [← hte]
  have HTE : Hid (refBq y = (t, e)) := Lib.hid hte.symm
  clear hte
  go_wp2_with fail
  refine (refDone_any p sf X1 H1.out.base.rdr (by have := H1.out.base.len; omega)).mono ?_
  rintro q W9 ⟨rfl, rfl⟩
  by_cases hz : rend sf = 0
  · have hzb : (rend sf == 0) = true := by simp [hz]
    have HZR := Lib.hid hz
    clear hz
    by_cases he : e = 0
    · subst he
      by_cases hts : t = s
      · subst hts
        go_wp2_with (first | (refine wpList_loadRow (T := 29) (b := br) (T' := 29) (cs := (cmc y (.slice a1 y.ifs.length c1) (.slice a2 y.thens.length c2) (.slice a3 y.elses.length c3)).toArray) rfl (.tmp 5) rfl rfl Try.sCmd H1.out.cmd ?_) | (refine wpList_storeRow (T := 29) (b := rb) (T' := 29) (cs := cmZ18) (vs := (cmc y (.slice a1 y.ifs.length c1) (.slice a2 y.thens.length c2) (.slice a3 y.elses.length c3)).toArray) rfl (.tmp 2) (.tmp 155) rfl rfl rfl Try.sCmd (H1.out.blk (List.mem_cons_self ..)) rfl (cmc_one _ _ _ _ rfl rfl rfl) ?_; intro U ub uk))
        exact bodyPost_ret (res_row2 (T := 29) (cs := (cmc y (.slice a1 y.ifs.length c1) (.slice a2 y.thens.length c2) (.slice a3 y.elses.length c3)).toArray) (p := 2) (u := 3) rfl _ rfl Try.sCmd ub) rfl ⟨H1.out.out.own uk HSO.out, .inl ⟨HZR.out, HTE.out, a1, c1, a2, c2, a3, c3, rfl, ⟨H1.out.i.rd.step uk (fun g hg e => by simp at e; exact HF.out g (.inl hg) e), H1.out.t.step uk (fun g hg e => by simp at e; exact HF.out g (.inr (.inl hg)) e), H1.out.e.step uk (fun g hg e => by simp at e; exact HF.out g (.inr (.inr hg)) e)⟩⟩⟩
      · have htn : (t == s) = false := by simpa using hts
        have HTS := Lib.hid hts
        clear hts
        have HNO : Hid (¬ (rend sf = 0 ∧ refBq y = (s, 0))) := Lib.hid (by intro h; rw [HTE.out] at h; exact HTS.out (Prod.mk.inj h.2).1)
        go_wp2_with (refine wpList_storeRow (T := 29) (b := rb) (T' := 29) (cs := cmZ18) (vs := cmZ18) rfl (.tmp 2) (.tmp 154) rfl rfl rfl Try.sCmd (H1.out.blk (List.mem_cons_self ..)) rfl cmZ18_one ?_; intro U ub uk)
        exact bodyPost_ret (res_row2 (T := 29) (cs := cmZ18) (p := 2) (u := 3) rfl _ rfl Try.sCmd ub) rfl ⟨H1.out.out.own uk HSO.out, .inr ⟨HNO.out, rfl⟩⟩
    · have hen : (e != 0) = true := by simpa using he
      have HEN := Lib.hid he
      clear he
      have HNO : Hid (¬ (rend sf = 0 ∧ refBq y = (s, 0))) := Lib.hid (by intro h; rw [HTE.out] at h; exact HEN.out (Prod.mk.inj h.2).2)
      go_wp2_with (refine wpList_storeRow (T := 29) (b := rb) (T' := 29) (cs := cmZ18) (vs := cmZ18) rfl (.tmp 2) (.tmp 154) rfl rfl rfl Try.sCmd (H1.out.blk (List.mem_cons_self ..)) rfl cmZ18_one ?_; intro U ub uk)
      exact bodyPost_ret (res_row2 (T := 29) (cs := cmZ18) (p := 2) (u := 3) rfl _ rfl Try.sCmd ub) rfl ⟨H1.out.out.own uk HSO.out, .inr ⟨HNO.out, rfl⟩⟩
  · have hzb : (rend sf == 0) = false := by simpa using hz
    have HZR := Lib.hid hz
    clear hz
    have HNO : Hid (¬ (rend sf = 0 ∧ refBq y = (s, 0))) := Lib.hid (by exact fun h => HZR.out h.1)
    go_wp2_with (refine wpList_storeRow (T := 29) (b := rb) (T' := 29) (cs := cmZ18) (vs := cmZ18) rfl (.tmp 2) (.tmp 154) rfl rfl rfl Try.sCmd (H1.out.blk (List.mem_cons_self ..)) rfl cmZ18_one ?_; intro U ub uk)
    exact bodyPost_ret (res_row2 (T := 29) (cs := cmZ18) (p := 2) (u := 3) rfl _ rfl Try.sCmd ub) rfl ⟨H1.out.out.own uk HSO.out, .inr ⟨HNO.out, rfl⟩⟩
set_option maxHeartbeats 16000000 in
theorem rrd8 {s : List UInt8} {w V : World} {rb p br : Nat} {x y : Cm} {st sf : RS} (HZ : Hid ((CmB y ∧ LenS y) ∧ rb ≠ br))
    (H : Hid (Df w V [(rb, 29, cmZ18)] p br st x none none none 0 0 0)) (HF : Hid (g8 (x, st) = (y, sf))) (HI0 : Hid (x.ifs = [])) (HE0 : Hid (x.thens = [] ∧ x.elses = [])) :
    Code.wp Try.prog (rright 15 (Try.f19.body.getD .skip)) (bodyPost Try.prog Try.f19 (RefRP s y sf w)) { tmps := #[Str s, u1, .pointer (some ⟨rb, 0, none⟩), u3, .pointer (some ⟨p, 0, none⟩), .pointer (some ⟨br, 0, none⟩), u6, u7, u8, u9, u10, u11, u12, u13, u14, u15, u16, u17, u18, u19, u20, u21, u22, u23, u24, u25, u26, u27, u28, u29, u30, u31, u32, u33, u34, u35, u36, u37, u38, u39, u40, u41, u42, u43, u44, u45, u46, u47, u48, u49, u50, u51, u52, u53, u54, u55, u56, u57, u58, u59, u60, u61, u62, u63, u64, u65, u66, u67, u68, u69, u70, u71, u72, u73, u74, u75, u76, u77, u78, u79, u80, u81, u82, u83, u84, u85, u86, u87, u88, u89, u90, u91, u92, u93, u94, u95, u96, u97, u98, u99, u100, u101, u102, u103, u104, u105, u106, u107, u108, u109, u110, u111, u112, u113, u114, u115, u116, u117, u118, u119, u120, u121, u122, u123, u124, u125, u126, u127, u128, u129, u130, u131, u132, u133, u134, u135, u136, u137, u138, u139, u140, u141, u142, u143, u144, u145, u146, u147, u148, u149, u150, u151, u152, u153, u154, u155], defers := [] } V := by
  conv => arg 2; whnf
  have k3 := H.out.cmd.cell 3
  have kl := H.out.cmd.lt
  simp only [cmc, List.getElem?_toArray, List.getElem?_cons_zero, List.getElem?_cons_succ] at k3
  go_wp2_with fail
  refine (hasq84 x.kind _).mono ?_
  rintro e Xp ⟨rfl, kk⟩
  have F2 := Lib.hid (H.out.quiet kk)
  clear kk k3 kl
  go_upto_if 97 with fail
  go_cut [] (fun wx => ∃ (a1 a2 a3 : Option Addr) (c1 c2 c3 : Nat), Hid (Df w wx [(rb, 29, cmZ18)] p br sf y a1 a2 a3 c1 c2 c3) ∧ Hid (∀ g, (g ∈ blks a1 ∨ g ∈ blks a2 ∨ g ∈ blks a3) → g ≠ rb))
  case first =>
    cases hN : (hasL x.kind 84) with
    | false =>
      have HN := Lib.hid hN
      have HF2 : Hid (g9 (x, st) = (y, sf)) := Lib.hid (by have := HF.out; unfold g8 sT at this; rwa [if_neg (by simp only [HN.out]; simp)] at this)
      clear hN
      go_wp2_with fail
      go_meet
      have e0 : (x, st) = (y, sf) := HF2.out
      obtain ⟨ey, es⟩ := Prod.mk.inj e0
      have F3 := F2.out
      rw [ey, es] at F3
      exact ⟨none, none, none, 0, 0, 0, Lib.hid F3, Lib.hid (by simp [blks])⟩
    | true =>
      have HN := Lib.hid hN
      clear hN
      go_wp2_with fail
      refine (df_upto F2.out mostN).mono ?_
      rintro e W1 ⟨rfl, t⟩
      have hn0 := upto_nat st mostN
      have hn1 := uptoQ_most st mostN (by simp [mostN])
      have hs2 := upto_len st mostN
      obtain ⟨N, hN⟩ : ∃ N : Nat, N = (upto st mostN).1.toNat := ⟨_, rfl⟩
      have hN2 : (upto st mostN).1 = (N : Int) := by omega
      have hN8 : N ≤ 4611686018427387903 := by have : mostN = 4611686018427387903 := rfl; omega
      obtain ⟨s0, hs0⟩ : ∃ q, q = (upto st mostN).2 := ⟨_, rfl⟩
      rw [← hs0] at t hs2
      obtain ⟨B, hB⟩ : ∃ B, B = s0.s.length := ⟨_, rfl⟩
      have hB8 : B ≤ 1099511627776 := by have := F2.out.base.len; omega
      obtain ⟨R, hR⟩ : ∃ R, R = rdCmpsF st := ⟨_, rfl⟩
      have HR := Lib.hid hR
      have HC : Hid (cmpsF N [] s0 = R ∧ s0.s.length ≤ B) := Lib.hid ⟨by rw [hR, rdCmpsF, hN, hs0]; rfl, by omega⟩
      have h0 : Hid (Df w W1 [(rb, 29, cmZ18)] p br s0 ({x with ifs := []} : Cm) none none none 0 0 0) := Lib.hid (by rw [ifs_nil x HI0.out]; exact t)
      rw [hN2]
      clear t hN hN2 hR hn0 hn1 hB hs2 hs0 F2
      obtain ⟨i0, hi, hz0, hz1, hz2⟩ := info_parts Try.info_cmp
      have HI := Lib.hid (And.intro hi (And.intro hz0 (And.intro hz1 hz2)))
      clear hi hz0 hz1 hz2
      go_upto_block 0 with fail
      go_cut [] (fun wx => Hid (∃ a1 c1, Df w wx [(rb, 29, cmZ18)] p br R.2 ({x with ifs := R.1} : Cm) a1 none none c1 0 0))
      case first =>
        go_wp2_with fail
        go_loopw [7] (fun i W => ∃ (k : Nat) (l : List Cp) (a : Option Addr) (c : Nat) (st1 : RS), k ≤ N ∧ l.length ≤ B + 1 ∧ (st1.bad = false → l.length + st1.s.length ≤ B) ∧ i = .int .i64 k ∧ Hid (Df w W [(rb, 29, cmZ18)] p br st1 ({x with ifs := l} : Cm) a none none c 0 0 ∧ cmpsF (N - k) l st1 = R)) (fun i _ => N - (intOf i).toNat)
        case atStart => exact ⟨0, [], none, 0, _, by omega, by simp, by simp; intro _; exact HC.out.2, rfl, h0.out, HC.out.1⟩
        case round =>
          clear HC h0
          rename World => W
          obtain ⟨k, l, a, c, st1, hk, hl1, hl2, rfl, HW⟩ := hrel
          have pc1 := Blk.cell HW.out.1.base.rdr 1
          have pl := Blk.lt HW.out.1.base.rdr
          simp only [List.getElem?_toArray, List.getElem?_cons_zero, List.getElem?_cons_succ] at pc1
          by_cases hlt : k < N
          · have hlt' : (k : Int) < N := by omega
            cases hbd : st1.bad with
            | true =>
              rw [hbd] at pc1
              have HBD := Lib.hid hbd
              clear hbd
              have GE : Hid (∃ a1 c1, Df w W [(rb, 29, cmZ18)] p br R.2 ({x with ifs := R.1} : Cm) a1 none none c1 0 0) := by
                have e0 : (l, st1) = R := by have := HW.out.2; rwa [show N - k = N - (k + 1) + 1 by omega, cmpsF, if_pos HBD.out] at this
                rw [← e0]
                exact ⟨a, c, HW.out.1⟩
              clear HW
              go_wp2_with fail
              go_meet
              exact GE
            | false =>
              rw [hbd] at pc1
              have HBF := Lib.hid hbd
              have hl3 := hl2 hbd
              clear hl2 hbd
              have HSt : Hid (cmpsF (N - (k + 1)) (l ++ [(cmpR mostN st1).1]) (cmpR mostN st1).2 = R) := Lib.hid (by have := HW.out.2; rwa [show N - k = N - (k + 1) + 1 by omega, cmpsF, if_neg (by rw [HBF.out]; simp)] at this)
              have HLS : Hid ((cmpR mostN st1).2 = rfail ∨ (cmpR mostN st1).2.s.length < st1.s.length) := Lib.hid (cmpR_less st1 mostN)
              go_upto_region 32 with fail
              clear pc1 pl
              obtain ⟨eb, heb⟩ : ∃ eb, eb = W.heap.size := ⟨_, rfl⟩
              obtain ⟨Y0, hY0⟩ : ∃ Y, Y = W.alloc (.cells (cpc ⟨[], 0, 0, []⟩).toArray 77) := ⟨_, rfl⟩
              have B0 : Hid (Df w Y0 ((eb, 77, (cpc ⟨[], 0, 0, []⟩).toArray) :: [(rb, 29, cmZ18)]) p br st1 ({x with ifs := l} : Cm) a none none c 0 0) := Lib.hid (by rw [hY0, heb]; exact HW.out.1.box _ _)
              have HNE : Hid (∀ q ∈ [(rb, 29, cmZ18)], q.1 ≠ eb) := Lib.hid (by rw [heb]; exact (HW.out.1.base.fresh |> fun f q hq => f q (List.mem_cons_of_mem _ hq)))
              change Code.wp _ _ _ _ (W.alloc (.cells (cpc ⟨[], 0, 0, []⟩).toArray 77))
              rw [← hY0]
              try rw [← heb]
              clear hY0 heb HW
              go_wp2_with fail
              refine (df_text B0.out mostN).mono ?_
              rintro e X2 ⟨rfl, t⟩
              have D2 := Lib.hid t
              clear t
              have zc := (D2.out.blk (List.mem_cons_self ..)).cell
              have z0 := zc 0
              clear zc
              simp only [cpc, List.getElem?_toArray, List.getElem?_cons_zero, List.getElem?_cons_succ] at z0
              have zl := (D2.out.blk (List.mem_cons_self ..)).lt
              have zf0 := (D2.out.blk (List.mem_cons_self ..)).frozen 0
              go_upto_region 33 with fail
              obtain ⟨Y1, hY⟩ : ∃ Y, Y = (X2.setCell ⟨eb, 0, none⟩ (Str (rtext st1 mostN).1)) := ⟨_, rfl⟩
              have B1 : Hid (Df w Y1 ((eb, 77, (cpc ⟨(rtext st1 mostN).1, 0, 0, []⟩).toArray) :: [(rb, 29, cmZ18)]) p br (rtext st1 mostN).2 ({x with ifs := l} : Cm) a none none c 0 0) := Lib.hid (D2.out.putK (by rw [hY]; exact (Step.refl [eb] X2).setCell (.inl (by simp)) _) (by rw [hY]; have hq := (D2.out.blk (List.mem_cons_self ..)).set 0 (Str (rtext st1 mostN).1); simpa [cpc] using hq) HNE.out)
              rw [← hY]
              clear hY D2 B0 z0 zl zf0
              go_wp2_with fail
              refine (df_upto B1.out mostN).mono ?_
              rintro e X3 ⟨rfl, t⟩
              have D3 := Lib.hid t
              clear t
              have zc := (D3.out.blk (List.mem_cons_self ..)).cell
              have z1 := zc 1
              clear zc
              simp only [cpc, List.getElem?_toArray, List.getElem?_cons_zero, List.getElem?_cons_succ] at z1
              have zl := (D3.out.blk (List.mem_cons_self ..)).lt
              have zf1 := (D3.out.blk (List.mem_cons_self ..)).frozen 1
              go_upto_region 34 with fail
              obtain ⟨Y2, hY⟩ : ∃ Y, Y = (X3.setCell ⟨eb, 1, none⟩ (.int .i64 (upto (rtext st1 mostN).2 mostN).1)) := ⟨_, rfl⟩
              have B2 : Hid (Df w Y2 ((eb, 77, (cpc ⟨(rtext st1 mostN).1, (upto (rtext st1 mostN).2 mostN).1, 0, []⟩).toArray) :: [(rb, 29, cmZ18)]) p br (upto (rtext st1 mostN).2 mostN).2 ({x with ifs := l} : Cm) a none none c 0 0) := Lib.hid (D3.out.putK (by rw [hY]; exact (Step.refl [eb] X3).setCell (.inl (by simp)) _) (by rw [hY]; have hq := (D3.out.blk (List.mem_cons_self ..)).set 1 (.int .i64 (upto (rtext st1 mostN).2 mostN).1); simpa [cpc] using hq) HNE.out)
              rw [← hY]
              clear hY D3 B1 z1 zl zf1
              go_wp2_with fail
              refine (df_upto B2.out mostN).mono ?_
              rintro e X4 ⟨rfl, t⟩
              have D4 := Lib.hid t
              clear t
              have zc := (D4.out.blk (List.mem_cons_self ..)).cell
              have z2 := zc 2
              clear zc
              simp only [cpc, List.getElem?_toArray, List.getElem?_cons_zero, List.getElem?_cons_succ] at z2
              have zl := (D4.out.blk (List.mem_cons_self ..)).lt
              have zf2 := (D4.out.blk (List.mem_cons_self ..)).frozen 2
              go_upto_region 35 with fail
              obtain ⟨Y3, hY⟩ : ∃ Y, Y = (X4.setCell ⟨eb, 2, none⟩ (.int .i64 (upto (upto (rtext st1 mostN).2 mostN).2 mostN).1)) := ⟨_, rfl⟩
              have B3 : Hid (Df w Y3 ((eb, 77, (cpc ⟨(rtext st1 mostN).1, (upto (rtext st1 mostN).2 mostN).1, (upto (upto (rtext st1 mostN).2 mostN).2 mostN).1, []⟩).toArray) :: [(rb, 29, cmZ18)]) p br (upto (upto (rtext st1 mostN).2 mostN).2 mostN).2 ({x with ifs := l} : Cm) a none none c 0 0) := Lib.hid (D4.out.putK (by rw [hY]; exact (Step.refl [eb] X4).setCell (.inl (by simp)) _) (by rw [hY]; have hq := (D4.out.blk (List.mem_cons_self ..)).set 2 (.int .i64 (upto (upto (rtext st1 mostN).2 mostN).2 mostN).1); simpa [cpc] using hq) HNE.out)
              rw [← hY]
              clear hY D4 B2 z2 zl zf2
              go_wp2_with fail
              refine (df_text B3.out mostN).mono ?_
              rintro e X5 ⟨rfl, t⟩
              have D5 := Lib.hid t
              clear t
              have zc := (D5.out.blk (List.mem_cons_self ..)).cell
              have z3 := zc 3
              clear zc
              simp only [cpc, List.getElem?_toArray, List.getElem?_cons_zero, List.getElem?_cons_succ] at z3
              have zl := (D5.out.blk (List.mem_cons_self ..)).lt
              have zf3 := (D5.out.blk (List.mem_cons_self ..)).frozen 3
              go_upto_region 36 with fail
              obtain ⟨Y4, hY⟩ : ∃ Y, Y = (X5.setCell ⟨eb, 3, none⟩ (Str (rtext (upto (upto (rtext st1 mostN).2 mostN).2 mostN).2 mostN).1)) := ⟨_, rfl⟩
              have B4 : Hid (Df w Y4 ((eb, 77, (cpc ⟨(rtext st1 mostN).1, (upto (rtext st1 mostN).2 mostN).1, (upto (upto (rtext st1 mostN).2 mostN).2 mostN).1, (rtext (upto (upto (rtext st1 mostN).2 mostN).2 mostN).2 mostN).1⟩).toArray) :: [(rb, 29, cmZ18)]) p br (rtext (upto (upto (rtext st1 mostN).2 mostN).2 mostN).2 mostN).2 ({x with ifs := l} : Cm) a none none c 0 0) := Lib.hid (D5.out.putK (by rw [hY]; exact (Step.refl [eb] X5).setCell (.inl (by simp)) _) (by rw [hY]; have hq := (D5.out.blk (List.mem_cons_self ..)).set 3 (Str (rtext (upto (upto (rtext st1 mostN).2 mostN).2 mostN).2 mostN).1); simpa [cpc] using hq) HNE.out)
              rw [← hY]
              clear hY D5 B3 z3 zl zf3
              obtain ⟨d, hd⟩ : ∃ d, d = (cmpR mostN st1).1 := ⟨_, rfl⟩
              obtain ⟨s9, hs9⟩ : ∃ q, q = (cmpR mostN st1).2 := ⟨_, rfl⟩
              have HD9 : Hid (Df w Y4 ((eb, 77, (cpc d).toArray) :: [(rb, 29, cmZ18)]) p br s9 ({x with ifs := l} : Cm) a none none c 0 0) := Lib.hid (by rw [hd, hs9]; exact B4.out)
              rw [← hd, ← hs9] at HSt
              rw [← hs9] at HLS
              clear hd hs9 B4
              have yc := (HD9.out.blk (List.mem_cons_self ..)).cell
              have y0 := yc 0
              have y1 := yc 1
              have y2 := yc 2
              have y3 := yc 3
              clear yc
              simp only [cpc, List.getElem?_toArray, List.getElem?_cons_zero, List.getElem?_cons_succ] at y0 y1 y2 y3
              have yl := (HD9.out.blk (List.mem_cons_self ..)).lt
              have yf0 := (HD9.out.blk (List.mem_cons_self ..)).frozen 0
              have yf1 := (HD9.out.blk (List.mem_cons_self ..)).frozen 1
              have yf2 := (HD9.out.blk (List.mem_cons_self ..)).frozen 2
              have yf3 := (HD9.out.blk (List.mem_cons_self ..)).frozen 3
              have mc := HD9.out.cmd.cell
              have m15 := mc 15
              clear mc
              simp only [cmc, List.getElem?_toArray, List.getElem?_cons_zero, List.getElem?_cons_succ] at m15
              have ml := HD9.out.cmd.lt
              have mf15 := HD9.out.cmd.frozen 15
              obtain ⟨nb, hnb⟩ : ∃ nb, nb = Y4.heap.size := ⟨_, rfl⟩
              obtain ⟨U, hU⟩ : ∃ U, U = Y4.alloc (.cells (cpc d).toArray 77) := ⟨_, rfl⟩
              have HRW : Hid (Df w U [(rb, 29, cmZ18)] p br s9 ({x with ifs := l} : Cm) a none none c 0 0 ∧ Rd U 4 (some ⟨nb, 0, none⟩) 1 (cpcs [d])) := Lib.hid (by rw [hU, hnb]; exact ⟨HD9.out.dropK.quiet ((Step.refl [] _).alloc _), rd_blk' (xs := cpcs [d]) (by simpa [cpcs] using Blk.new Y4 77 (cpc d).toArray) 4 1 rfl⟩)
              have HRI : Hid (Row U 4 a l.length c (cpcs l)) := Lib.hid HRW.out.1.i
              have HNB := Lib.hid hnb
              have HU := Lib.hid hU
              clear hnb hU
              go_upto_region 30 with (at_builtin; rw [show Y4.heap.size = nb from HNB.out.symm, show Y4.alloc (.cells #[.string ⟨d.key.toArray⟩, .int .i64 d.what, .int .i64 d.rev, .string ⟨d.val.toArray⟩] 77) = U from HU.out.symm]; refine wpList_append_row rfl (.tmp 126) (.tmp 128) 26 26 rfl 77 i0 _ 4 48 Try.underlying26 HI.out.1 HI.out.2.1 HI.out.2.2.1 HI.out.2.2.2 rfl rfl HRI.out rfl (Src.rd 26 77 Try.underlying26 HRW.out.2 (cpcs_one _)) (by unfold maxLen; omega) (by omega) (by omega) ?_; intro a9 c9 w9 hr9 st9; have G9 : Hid (Df w (w9.setCell ⟨br, 15, none⟩ (.slice a9 (l.length + 1) c9)) [(rb, 29, cmZ18)] p br s9 ({x with ifs := l ++ [d]} : Cm) a9 none none c9 0 0) := Lib.hid (HRW.out.1.grow (c := d) st9 hr9 rfl); have M9 := Lib.hid (HRW.out.1.mid st9); clear hr9 st9 m15 ml mf15; have zc := M9.out.1.cell 15; have zl := M9.out.1.lt; have zf := M9.out.1.frozen 15; simp only [cmc, List.getElem?_toArray, List.getElem?_cons_zero, List.getElem?_cons_succ] at zc)
              clear zc zl zf y0 y1 y2 y3 yl yf0 yf1 yf2 yf3
              obtain ⟨U9, hU9⟩ : ∃ U9, U9 = w9.setCell ⟨br, 15, none⟩ (.slice a9 (l.length + 1) c9) := ⟨_, rfl⟩
              rw [← hU9] at G9
              rw [← hU9]
              clear hU9
              go_wp2_with fail
              go_roundw
              case rel => exact ⟨k + 1, l ++ [d], a9, c9, s9, by omega, by simp; have := HLS.out; omega, by simp; intro hb; rcases HLS.out with q | q; (rw [q] at hb; simp [rfail] at hb); omega, by go_num, Lib.hid ⟨G9.out, HSt.out⟩⟩
              case measure => simp [intOf]; omega
          · obtain rfl : k = N := by omega
            have hnl : ¬ (k : Int) < k := by omega
            have GE : Hid (∃ a1 c1, Df w W [(rb, 29, cmZ18)] p br R.2 ({x with ifs := R.1} : Cm) a1 none none c1 0 0) := by
              have e0 : (l, st1) = R := by have := HW.out.2; rwa [Nat.sub_self, cmpsF] at this
              rw [← e0]
              exact ⟨a, c, HW.out.1⟩
            clear HW pc1 pl
            go_wp2_with fail
            go_meet
            exact GE
      case rest =>
        rename World => V1
        obtain ⟨b1, e1, hd⟩ := Hid.out hcut
        have K0 := Lib.hid hd
        clear hcut hd HC h0
        go_wp2_with fail
        refine (df_acts K0.out).mono ?_
        rintro e X61 ⟨b61, e61, rfl, t1, t2, t3⟩
        have K61 := Lib.hid t1
        have Q61 := Lib.hid (And.intro t2 t3)
        clear t1 t2 t3
        have mc := K61.out.cmd.cell
        have m16 := mc 16
        clear mc
        simp only [cmc, List.getElem?_toArray, List.getElem?_cons_zero, List.getElem?_cons_succ] at m16
        have ml := K61.out.cmd.lt
        have mf16 := K61.out.cmd.frozen 16
        go_upto_region 38 with fail
        obtain ⟨U61, hU⟩ : ∃ U, U = X61.setCell ⟨br, 16, none⟩ (.slice b61 (rdActsF R.2).1.length e61) := ⟨_, rfl⟩
        have L61 : Hid (Df w U61 [(rb, 29, cmZ18)] p br (rdActsF R.2).2 ({x with ifs := R.1, thens := (rdActsF R.2).1} : Cm) b1 b61 none e1 e61 0) := Lib.hid (by rw [hU]; exact K61.out.putL ((Step.refl [br] X61).setCell (.inl (by simp)) _) (by have hq := K61.out.cmd.set 16 (.slice b61 (rdActsF R.2).1.length e61); simpa [cmc] using hq) rfl (Q61.out.1.step ((Step.refl [br] X61).setCell (.inl (by simp)) _) (fun g hg => by simpa using (Q61.out.2 g hg).2.1)) (by have hz : x.elses = [] := HE0.out.2; simp only [hz]; exact (Row.none _ 7).rd) (fun g hg => ⟨(Q61.out.2 g hg).1, (Q61.out.2 g hg).2.1⟩) (by simp [blks]))
        try rw [← hU]
        clear hU m16 ml mf16
        go_wp2_with fail
        refine (df_acts L61.out).mono ?_
        rintro e X62 ⟨b62, e62, rfl, t1, t2, t3⟩
        have K62 := Lib.hid t1
        have Q62 := Lib.hid (And.intro t2 t3)
        clear t1 t2 t3
        have mc := K62.out.cmd.cell
        have m17 := mc 17
        clear mc
        simp only [cmc, List.getElem?_toArray, List.getElem?_cons_zero, List.getElem?_cons_succ] at m17
        have ml := K62.out.cmd.lt
        have mf17 := K62.out.cmd.frozen 17
        go_wp2_with fail
        obtain ⟨U62, hU⟩ : ∃ U, U = X62.setCell ⟨br, 17, none⟩ (.slice b62 (rdActsF (rdActsF R.2).2).1.length e62) := ⟨_, rfl⟩
        have L62 : Hid (Df w U62 [(rb, 29, cmZ18)] p br (rdActsF (rdActsF R.2).2).2 ({x with ifs := R.1, thens := (rdActsF R.2).1, elses := (rdActsF (rdActsF R.2).2).1} : Cm) b1 b61 b62 e1 e61 e62) := Lib.hid (by rw [hU]; exact K62.out.putL ((Step.refl [br] X62).setCell (.inl (by simp)) _) (by have hq := K62.out.cmd.set 17 (.slice b62 (rdActsF (rdActsF R.2).2).1.length e62); simpa [cmc] using hq) rfl (K62.out.t.step ((Step.refl [br] X62).setCell (.inl (by simp)) _) (fun g hg => by simpa using (K62.out.dt g hg).2)) (Q62.out.1.step ((Step.refl [br] X62).setCell (.inl (by simp)) _) (fun g hg => by simpa using (Q62.out.2 g hg).2.1)) K62.out.dt (fun g hg => ⟨(Q62.out.2 g hg).1, (Q62.out.2 g hg).2.1⟩))
        clear m17 ml mf17
        have e0 : (({x with ifs := R.1, thens := (rdActsF R.2).1, elses := (rdActsF (rdActsF R.2).2).1} : Cm), (rdActsF (rdActsF R.2).2).2) = (y, sf) := by have := HF.out; unfold g8 g9 sT at this; rw [if_pos HN.out] at this; rw [HR.out]; exact this
        obtain ⟨ey, es⟩ := Prod.mk.inj e0
        rw [ey, es] at L62
        rw [hU] at L62
        have eyi : R.1.length = y.ifs.length ∧ (rdActsF R.2).1.length = y.thens.length ∧ (rdActsF (rdActsF R.2).2).1.length = y.elses.length := by rw [← ey]; exact ⟨rfl, rfl, rfl⟩
        have HQ9 : Hid (∀ g, (g ∈ blks b1 ∨ g ∈ blks b61 ∨ g ∈ blks b62) → g ≠ rb) := Lib.hid (fun g hg => by rcases hg with hg | hg | hg; exact (K0.out.di g hg).2.2.2 _ (List.mem_cons_self ..); exact (Q61.out.2 g hg).2.2 _ (List.mem_cons_self ..); exact (Q62.out.2 g hg).2.2 _ (List.mem_cons_self ..))
        clear e0 ey es eyi
        go_meet
        exact ⟨b1, b61, b62, e1, e61, e62, L62, HQ9⟩
  case rest =>
    rename World => V2
    obtain ⟨b1, b2, b3, e1, e2, e3, H2, HF2⟩ := hcut
    rename ∀ (a : Act) (w : World), Code.wp _ _ _ a w → _ => hK
    refine hK _ _ ?_
    exact rrd9 HZ H2 HF2
set_option maxHeartbeats 16000000 in
theorem rrd7 {s : List UInt8} {w V : World} {rb p br : Nat} {x y : Cm} {st sf : RS} (HZ : Hid ((CmB y ∧ LenS y) ∧ rb ≠ br))
    (H : Hid (Df w V [(rb, 29, cmZ18)] p br st x none none none 0 0 0)) (HF : Hid (g7 (x, st) = (y, sf))) (HI0 : Hid (x.ifs = [])) (HE0 : Hid (x.thens = [] ∧ x.elses = [])) :
    Code.wp Try.prog (rright 14 (Try.f19.body.getD .skip)) (bodyPost Try.prog Try.f19 (RefRP s y sf w)) { tmps := #[Str s, u1, .pointer (some ⟨rb, 0, none⟩), u3, .pointer (some ⟨p, 0, none⟩), .pointer (some ⟨br, 0, none⟩), u6, u7, u8, u9, u10, u11, u12, u13, u14, u15, u16, u17, u18, u19, u20, u21, u22, u23, u24, u25, u26, u27, u28, u29, u30, u31, u32, u33, u34, u35, u36, u37, u38, u39, u40, u41, u42, u43, u44, u45, u46, u47, u48, u49, u50, u51, u52, u53, u54, u55, u56, u57, u58, u59, u60, u61, u62, u63, u64, u65, u66, u67, u68, u69, u70, u71, u72, u73, u74, u75, u76, u77, u78, u79, u80, u81, u82, u83, u84, u85, u86, u87, u88, u89, u90, u91, u92, u93, u94, u95, u96, u97, u98, u99, u100, u101, u102, u103, u104, u105, u106, u107, u108, u109, u110, u111, u112, u113, u114, u115, u116, u117, u118, u119, u120, u121, u122, u123, u124, u125, u126, u127, u128, u129, u130, u131, u132, u133, u134, u135, u136, u137, u138, u139, u140, u141, u142, u143, u144, u145, u146, u147, u148, u149, u150, u151, u152, u153, u154, u155], defers := [] } V := by
  conv => arg 2; whnf
  have k3 := H.out.cmd.cell 3
  have kl := H.out.cmd.lt
  simp only [cmc, List.getElem?_toArray, List.getElem?_cons_zero, List.getElem?_cons_succ] at k3
  go_wp2_with fail
  refine (hasq71 x.kind _).mono ?_
  rintro e Xp ⟨rfl, kk⟩
  have F2 := Lib.hid (H.out.quiet kk)
  clear kk k3 kl
  go_upto_if 86 with fail
  go_cut [] (fun wx => ∃ (x2 : Cm) (st2 : RS), Hid (Df w wx [(rb, 29, cmZ18)] p br st2 x2 none none none 0 0 0) ∧ Hid (g8 (x2, st2) = (y, sf)) ∧ Hid (x2.ifs = []) ∧ Hid (x2.thens = [] ∧ x2.elses = []))
  case first =>
    cases hN : (hasL x.kind 71) with
    | false =>
      have HN := Lib.hid hN
      have HF2 : Hid (g8 (x, st) = (y, sf)) := Lib.hid (by have := HF.out; unfold g7 sG at this; rwa [if_neg (by simp only [HN.out]; simp)] at this)
      clear hN
      go_wp2_with fail
      go_meet
      exact ⟨x, st, F2, HF2, HI0, HE0⟩
    | true =>
      have HN := Lib.hid hN
      clear hN
      go_wp2_with fail
      refine (df_flag F2.out).mono ?_
      rintro e X6 ⟨rfl, t⟩
      have H6 := Lib.hid t
      clear t
      have mc := H6.out.cmd.cell
      have m12 := mc 12
      clear mc
      simp only [cmc, List.getElem?_toArray, List.getElem?_cons_zero, List.getElem?_cons_succ] at m12
      have ml := H6.out.cmd.lt
      have mf12 := H6.out.cmd.frozen 12
      go_upto_region 25 with fail
      have Z0 : Hid (Df w (X6.setCell ⟨br, 12, none⟩ (.bool (rflag st).1)) [(rb, 29, cmZ18)] p br ((rflag st).2) (({x with gr := (rflag st).1} : Cm)) none none none 0 0 0) := Lib.hid (H6.out.put0 ((Step.refl [br] X6).setCell (.inl (by simp)) _) (by have hq := H6.out.cmd.set 12 (.bool (rflag st).1); simpa [cmc] using hq) rfl HE0.out.1 HE0.out.2)
      obtain ⟨U0, hU⟩ : ∃ U, U = (X6.setCell ⟨br, 12, none⟩ (.bool (rflag st).1)) := ⟨_, rfl⟩
      rw [← hU] at Z0
      rw [← hU]
      clear hU m12 ml mf12
      go_wp2_with fail
      refine (df_flag Z0.out).mono ?_
      rintro e X7 ⟨rfl, t⟩
      have H7 := Lib.hid t
      clear t
      have mc := H7.out.cmd.cell
      have m13 := mc 13
      clear mc
      simp only [cmc, List.getElem?_toArray, List.getElem?_cons_zero, List.getElem?_cons_succ] at m13
      have ml := H7.out.cmd.lt
      have mf13 := H7.out.cmd.frozen 13
      go_wp2_with fail
      have Z1 : Hid (Df w (X7.setCell ⟨br, 13, none⟩ (.bool (rflag (rflag st).2).1)) [(rb, 29, cmZ18)] p br ((rflag (rflag st).2).2) (({x with gr := (rflag st).1, gw := (rflag (rflag st).2).1} : Cm)) none none none 0 0 0) := Lib.hid (H7.out.put0 ((Step.refl [br] X7).setCell (.inl (by simp)) _) (by have hq := H7.out.cmd.set 13 (.bool (rflag (rflag st).2).1); simpa [cmc] using hq) rfl HE0.out.1 HE0.out.2)
      go_meet
      exact ⟨({x with gr := (rflag st).1, gw := (rflag (rflag st).2).1} : Cm), (rflag (rflag st).2).2, Z1, Lib.hid (by have := HF.out; unfold g7 sG at this; rwa [if_pos (by simp only [HN.out])] at this), HI0, HE0⟩
  case rest =>
    rename World => V2
    obtain ⟨x2, st2, H2, HF2, HI2, HE2⟩ := hcut
    rename ∀ (a : Act) (w : World), Code.wp _ _ _ a w → _ => hK
    refine hK _ _ ?_
    exact rrd8 HZ H2 HF2 HI2 HE2
set_option maxHeartbeats 16000000 in
theorem rrd6 {s : List UInt8} {w V : World} {rb p br : Nat} {x y : Cm} {st sf : RS} (HZ : Hid ((CmB y ∧ LenS y) ∧ rb ≠ br))
    (H : Hid (Df w V [(rb, 29, cmZ18)] p br st x none none none 0 0 0)) (HF : Hid (g6 (x, st) = (y, sf))) (HI0 : Hid (x.ifs = [])) (HE0 : Hid (x.thens = [] ∧ x.elses = [])) :
    Code.wp Try.prog (rright 13 (Try.f19.body.getD .skip)) (bodyPost Try.prog Try.f19 (RefRP s y sf w)) { tmps := #[Str s, u1, .pointer (some ⟨rb, 0, none⟩), u3, .pointer (some ⟨p, 0, none⟩), .pointer (some ⟨br, 0, none⟩), u6, u7, u8, u9, u10, u11, u12, u13, u14, u15, u16, u17, u18, u19, u20, u21, u22, u23, u24, u25, u26, u27, u28, u29, u30, u31, u32, u33, u34, u35, u36, u37, u38, u39, u40, u41, u42, u43, u44, u45, u46, u47, u48, u49, u50, u51, u52, u53, u54, u55, u56, u57, u58, u59, u60, u61, u62, u63, u64, u65, u66, u67, u68, u69, u70, u71, u72, u73, u74, u75, u76, u77, u78, u79, u80, u81, u82, u83, u84, u85, u86, u87, u88, u89, u90, u91, u92, u93, u94, u95, u96, u97, u98, u99, u100, u101, u102, u103, u104, u105, u106, u107, u108, u109, u110, u111, u112, u113, u114, u115, u116, u117, u118, u119, u120, u121, u122, u123, u124, u125, u126, u127, u128, u129, u130, u131, u132, u133, u134, u135, u136, u137, u138, u139, u140, u141, u142, u143, u144, u145, u146, u147, u148, u149, u150, u151, u152, u153, u154, u155], defers := [] } V := by
  conv => arg 2; whnf
  dsimp only
  have k3 := H.out.cmd.cell 3
  have kl := H.out.cmd.lt
  simp only [cmc, List.getElem?_toArray, List.getElem?_cons_zero, List.getElem?_cons_succ] at k3
  go_upto_region 20 with fail
  go_cut [73] (fun v wx => v = .bool (hasL x.kind 71 || hasL x.kind 80) ∧ Hid (Df w wx [(rb, 29, cmZ18)] p br st x none none none 0 0 0))
  case first =>
    go_wp2_with fail
    refine (hasq71 x.kind _).mono ?_
    rintro e X1 ⟨rfl, kk⟩
    have F1 := Lib.hid (H.out.quiet kk)
    clear kk k3 kl
    have k3 := F1.out.cmd.cell 3
    have kl := F1.out.cmd.lt
    simp only [cmc, List.getElem?_toArray, List.getElem?_cons_zero, List.getElem?_cons_succ] at k3
    cases hG : hasL x.kind 71 with
    | true =>
      go_wp2_with fail
      go_meet
      exact ⟨by rw [hG]; simp, F1⟩
    | false =>
      go_wp2_with fail
      refine (hasq80 x.kind _).mono ?_
      rintro e Xp ⟨rfl, kk⟩
      have Fp := Lib.hid (F1.out.quiet kk)
      clear kk
      go_wp2_with fail
      go_meet
      exact ⟨by rw [hG]; simp, Fp⟩
  case rest =>
    rename World => Vp
    obtain ⟨rfl, F2⟩ := hcut
    clear k3 kl
    go_upto_if 73 with fail
    go_cut [] (fun wx => ∃ (x2 : Cm) (st2 : RS), Hid (Df w wx [(rb, 29, cmZ18)] p br st2 x2 none none none 0 0 0) ∧ Hid (g7 (x2, st2) = (y, sf)) ∧ Hid (x2.ifs = []) ∧ Hid (x2.thens = [] ∧ x2.elses = []))
    case first =>
      cases hN : ((hasL x.kind 71 || hasL x.kind 80)) with
      | false =>
        have HN := Lib.hid hN
        have HF2 : Hid (g7 (x, st) = (y, sf)) := Lib.hid (by have := HF.out; unfold g6 sP at this; rwa [if_neg (by simp only [HN.out]; simp)] at this)
        clear hN
        go_wp2_with fail
        go_meet
        exact ⟨x, st, F2, HF2, HI0, HE0⟩
      | true =>
        have HN := Lib.hid hN
        clear hN
        go_wp2_with fail
        refine (df_text F2.out mostN).mono ?_
        rintro e X8 ⟨rfl, t⟩
        have H8 := Lib.hid t
        clear t
        have mc := H8.out.cmd.cell
        have m10 := mc 10
        clear mc
        simp only [cmc, List.getElem?_toArray, List.getElem?_cons_zero, List.getElem?_cons_succ] at m10
        have ml := H8.out.cmd.lt
        have mf10 := H8.out.cmd.frozen 10
        go_upto_region 22 with fail
        have Z0 : Hid (Df w (X8.setCell ⟨br, 10, none⟩ (Str (rtext st mostN).1)) [(rb, 29, cmZ18)] p br ((rtext st mostN).2) (({x with gf := (rtext st mostN).1} : Cm)) none none none 0 0 0) := Lib.hid (H8.out.put0 ((Step.refl [br] X8).setCell (.inl (by simp)) _) (by have hq := H8.out.cmd.set 10 (Str (rtext st mostN).1); simpa [cmc] using hq) rfl HE0.out.1 HE0.out.2)
        obtain ⟨U0, hU⟩ : ∃ U, U = (X8.setCell ⟨br, 10, none⟩ (Str (rtext st mostN).1)) := ⟨_, rfl⟩
        rw [← hU] at Z0
        rw [← hU]
        clear hU m10 ml mf10
        go_wp2_with fail
        refine (df_text Z0.out mostN).mono ?_
        rintro e X9 ⟨rfl, t⟩
        have H9 := Lib.hid t
        clear t
        have mc := H9.out.cmd.cell
        have m11 := mc 11
        clear mc
        simp only [cmc, List.getElem?_toArray, List.getElem?_cons_zero, List.getElem?_cons_succ] at m11
        have ml := H9.out.cmd.lt
        have mf11 := H9.out.cmd.frozen 11
        go_wp2_with fail
        have Z1 : Hid (Df w (X9.setCell ⟨br, 11, none⟩ (Str (rtext (rtext st mostN).2 mostN).1)) [(rb, 29, cmZ18)] p br ((rtext (rtext st mostN).2 mostN).2) (({x with gf := (rtext st mostN).1, gt := (rtext (rtext st mostN).2 mostN).1} : Cm)) none none none 0 0 0) := Lib.hid (H9.out.put0 ((Step.refl [br] X9).setCell (.inl (by simp)) _) (by have hq := H9.out.cmd.set 11 (Str (rtext (rtext st mostN).2 mostN).1); simpa [cmc] using hq) rfl HE0.out.1 HE0.out.2)
        go_meet
        exact ⟨({x with gf := (rtext st mostN).1, gt := (rtext (rtext st mostN).2 mostN).1} : Cm), (rtext (rtext st mostN).2 mostN).2, Z1, Lib.hid (by have := HF.out; unfold g6 sP at this; rwa [if_pos (by simp only [HN.out])] at this), HI0, HE0⟩
    case rest =>
      rename World => V2
      obtain ⟨x2, st2, H2, HF2, HI2, HE2⟩ := hcut
      rename ∀ (a : Act) (w : World), Code.wp _ _ _ a w → _ => hK
      refine hK _ _ ?_
      exact rrd7 HZ H2 HF2 HI2 HE2
set_option maxHeartbeats 16000000 in
theorem rrd5 {s : List UInt8} {w V : World} {rb p br : Nat} {x y : Cm} {st sf : RS} (HZ : Hid ((CmB y ∧ LenS y) ∧ rb ≠ br))
    (H : Hid (Df w V [(rb, 29, cmZ18)] p br st x none none none 0 0 0)) (HF : Hid (g5 (x, st) = (y, sf))) (HI0 : Hid (x.ifs = [])) (HE0 : Hid (x.thens = [] ∧ x.elses = [])) :
    Code.wp Try.prog (rright 12 (Try.f19.body.getD .skip)) (bodyPost Try.prog Try.f19 (RefRP s y sf w)) { tmps := #[Str s, u1, .pointer (some ⟨rb, 0, none⟩), u3, .pointer (some ⟨p, 0, none⟩), .pointer (some ⟨br, 0, none⟩), u6, u7, u8, u9, u10, u11, u12, u13, u14, u15, u16, u17, u18, u19, u20, u21, u22, u23, u24, u25, u26, u27, u28, u29, u30, u31, u32, u33, u34, u35, u36, u37, u38, u39, u40, u41, u42, u43, u44, u45, u46, u47, u48, u49, u50, u51, u52, u53, u54, u55, u56, u57, u58, u59, u60, u61, u62, u63, u64, u65, u66, u67, u68, u69, u70, u71, u72, u73, u74, u75, u76, u77, u78, u79, u80, u81, u82, u83, u84, u85, u86, u87, u88, u89, u90, u91, u92, u93, u94, u95, u96, u97, u98, u99, u100, u101, u102, u103, u104, u105, u106, u107, u108, u109, u110, u111, u112, u113, u114, u115, u116, u117, u118, u119, u120, u121, u122, u123, u124, u125, u126, u127, u128, u129, u130, u131, u132, u133, u134, u135, u136, u137, u138, u139, u140, u141, u142, u143, u144, u145, u146, u147, u148, u149, u150, u151, u152, u153, u154, u155], defers := [] } V := by
  conv => arg 2; whnf
  have k3 := H.out.cmd.cell 3
  have kl := H.out.cmd.lt
  simp only [cmc, List.getElem?_toArray, List.getElem?_cons_zero, List.getElem?_cons_succ] at k3
  go_wp2_with fail
  refine (hasq82 x.kind _).mono ?_
  rintro e Xp ⟨rfl, kk⟩
  have F2 := Lib.hid (H.out.quiet kk)
  clear kk k3 kl
  go_upto_if 62 with fail
  go_cut [] (fun wx => ∃ (x2 : Cm) (st2 : RS), Hid (Df w wx [(rb, 29, cmZ18)] p br st2 x2 none none none 0 0 0) ∧ Hid (g6 (x2, st2) = (y, sf)) ∧ Hid (x2.ifs = []) ∧ Hid (x2.thens = [] ∧ x2.elses = []))
  case first =>
    cases hN : (hasL x.kind 82) with
    | false =>
      have HN := Lib.hid hN
      have HF2 : Hid (g6 (x, st) = (y, sf)) := Lib.hid (by have := HF.out; unfold g5 sR at this; rwa [if_neg (by simp only [HN.out]; simp)] at this)
      clear hN
      go_wp2_with fail
      go_meet
      exact ⟨x, st, F2, HF2, HI0, HE0⟩
    | true =>
      have HN := Lib.hid hN
      clear hN
      go_wp2_with fail
      refine (df_upto F2.out mostN).mono ?_
      rintro e X10 ⟨rfl, t⟩
      have H10 := Lib.hid t
      clear t
      have mc := H10.out.cmd.cell
      have m14 := mc 14
      clear mc
      simp only [cmc, List.getElem?_toArray, List.getElem?_cons_zero, List.getElem?_cons_succ] at m14
      have ml := H10.out.cmd.lt
      have mf14 := H10.out.cmd.frozen 14
      go_wp2_with fail
      have Z0 : Hid (Df w (X10.setCell ⟨br, 14, none⟩ (.int .i64 (upto st mostN).1)) [(rb, 29, cmZ18)] p br ((upto st mostN).2) (({x with rev := (upto st mostN).1} : Cm)) none none none 0 0 0) := Lib.hid (H10.out.put0 ((Step.refl [br] X10).setCell (.inl (by simp)) _) (by have hq := H10.out.cmd.set 14 (.int .i64 (upto st mostN).1); simpa [cmc] using hq) rfl HE0.out.1 HE0.out.2)
      go_meet
      exact ⟨({x with rev := (upto st mostN).1} : Cm), (upto st mostN).2, Z0, Lib.hid (by have := HF.out; unfold g5 sR at this; rwa [if_pos (by simp only [HN.out])] at this), HI0, HE0⟩
  case rest =>
    rename World => V2
    obtain ⟨x2, st2, H2, HF2, HI2, HE2⟩ := hcut
    rename ∀ (a : Act) (w : World), Code.wp _ _ _ a w → _ => hK
    refine hK _ _ ?_
    exact rrd6 HZ H2 HF2 HI2 HE2
set_option maxHeartbeats 16000000 in
theorem rrd4 {s : List UInt8} {w V : World} {rb p br : Nat} {x y : Cm} {st sf : RS} (HZ : Hid ((CmB y ∧ LenS y) ∧ rb ≠ br))
    (H : Hid (Df w V [(rb, 29, cmZ18)] p br st x none none none 0 0 0)) (HF : Hid (g4 (x, st) = (y, sf))) (HI0 : Hid (x.ifs = [])) (HE0 : Hid (x.thens = [] ∧ x.elses = [])) :
    Code.wp Try.prog (rright 11 (Try.f19.body.getD .skip)) (bodyPost Try.prog Try.f19 (RefRP s y sf w)) { tmps := #[Str s, u1, .pointer (some ⟨rb, 0, none⟩), u3, .pointer (some ⟨p, 0, none⟩), .pointer (some ⟨br, 0, none⟩), u6, u7, u8, u9, u10, u11, u12, u13, u14, u15, u16, u17, u18, u19, u20, u21, u22, u23, u24, u25, u26, u27, u28, u29, u30, u31, u32, u33, u34, u35, u36, u37, u38, u39, u40, u41, u42, u43, u44, u45, u46, u47, u48, u49, u50, u51, u52, u53, u54, u55, u56, u57, u58, u59, u60, u61, u62, u63, u64, u65, u66, u67, u68, u69, u70, u71, u72, u73, u74, u75, u76, u77, u78, u79, u80, u81, u82, u83, u84, u85, u86, u87, u88, u89, u90, u91, u92, u93, u94, u95, u96, u97, u98, u99, u100, u101, u102, u103, u104, u105, u106, u107, u108, u109, u110, u111, u112, u113, u114, u115, u116, u117, u118, u119, u120, u121, u122, u123, u124, u125, u126, u127, u128, u129, u130, u131, u132, u133, u134, u135, u136, u137, u138, u139, u140, u141, u142, u143, u144, u145, u146, u147, u148, u149, u150, u151, u152, u153, u154, u155], defers := [] } V := by
  conv => arg 2; whnf
  have k3 := H.out.cmd.cell 3
  have kl := H.out.cmd.lt
  simp only [cmc, List.getElem?_toArray, List.getElem?_cons_zero, List.getElem?_cons_succ] at k3
  go_wp2_with fail
  refine (hasq81 x.kind _).mono ?_
  rintro e Xp ⟨rfl, kk⟩
  have F2 := Lib.hid (H.out.quiet kk)
  clear kk k3 kl
  go_upto_if 53 with fail
  go_cut [] (fun wx => ∃ (x2 : Cm) (st2 : RS), Hid (Df w wx [(rb, 29, cmZ18)] p br st2 x2 none none none 0 0 0) ∧ Hid (g5 (x2, st2) = (y, sf)) ∧ Hid (x2.ifs = []) ∧ Hid (x2.thens = [] ∧ x2.elses = []))
  case first =>
    cases hN : (hasL x.kind 81) with
    | false =>
      have HN := Lib.hid hN
      have HF2 : Hid (g5 (x, st) = (y, sf)) := Lib.hid (by have := HF.out; unfold g4 sQ at this; rwa [if_neg (by simp only [HN.out]; simp)] at this)
      clear hN
      go_wp2_with fail
      go_meet
      exact ⟨x, st, F2, HF2, HI0, HE0⟩
    | true =>
      have HN := Lib.hid hN
      clear hN
      go_wp2_with fail
      refine (df_upto F2.out mostN).mono ?_
      rintro e X11 ⟨rfl, t⟩
      have H11 := Lib.hid t
      clear t
      have mc := H11.out.cmd.cell
      have m8 := mc 8
      clear mc
      simp only [cmc, List.getElem?_toArray, List.getElem?_cons_zero, List.getElem?_cons_succ] at m8
      have ml := H11.out.cmd.lt
      have mf8 := H11.out.cmd.frozen 8
      go_upto_region 17 with fail
      have Z0 : Hid (Df w (X11.setCell ⟨br, 8, none⟩ (.int .i64 (upto st mostN).1)) [(rb, 29, cmZ18)] p br ((upto st mostN).2) (({x with bytes := (upto st mostN).1} : Cm)) none none none 0 0 0) := Lib.hid (H11.out.put0 ((Step.refl [br] X11).setCell (.inl (by simp)) _) (by have hq := H11.out.cmd.set 8 (.int .i64 (upto st mostN).1); simpa [cmc] using hq) rfl HE0.out.1 HE0.out.2)
      obtain ⟨U0, hU⟩ : ∃ U, U = (X11.setCell ⟨br, 8, none⟩ (.int .i64 (upto st mostN).1)) := ⟨_, rfl⟩
      rw [← hU] at Z0
      rw [← hU]
      clear hU m8 ml mf8
      go_wp2_with fail
      refine (df_upto Z0.out mostN).mono ?_
      rintro e X12 ⟨rfl, t⟩
      have H12 := Lib.hid t
      clear t
      have mc := H12.out.cmd.cell
      have m9 := mc 9
      clear mc
      simp only [cmc, List.getElem?_toArray, List.getElem?_cons_zero, List.getElem?_cons_succ] at m9
      have ml := H12.out.cmd.lt
      have mf9 := H12.out.cmd.frozen 9
      go_wp2_with fail
      have Z1 : Hid (Df w (X12.setCell ⟨br, 9, none⟩ (.int .i64 (upto (upto st mostN).2 mostN).1)) [(rb, 29, cmZ18)] p br ((upto (upto st mostN).2 mostN).2) (({x with bytes := (upto st mostN).1, keys := (upto (upto st mostN).2 mostN).1} : Cm)) none none none 0 0 0) := Lib.hid (H12.out.put0 ((Step.refl [br] X12).setCell (.inl (by simp)) _) (by have hq := H12.out.cmd.set 9 (.int .i64 (upto (upto st mostN).2 mostN).1); simpa [cmc] using hq) rfl HE0.out.1 HE0.out.2)
      go_meet
      exact ⟨({x with bytes := (upto st mostN).1, keys := (upto (upto st mostN).2 mostN).1} : Cm), (upto (upto st mostN).2 mostN).2, Z1, Lib.hid (by have := HF.out; unfold g4 sQ at this; rwa [if_pos (by simp only [HN.out])] at this), HI0, HE0⟩
  case rest =>
    rename World => V2
    obtain ⟨x2, st2, H2, HF2, HI2, HE2⟩ := hcut
    rename ∀ (a : Act) (w : World), Code.wp _ _ _ a w → _ => hK
    refine hK _ _ ?_
    exact rrd5 HZ H2 HF2 HI2 HE2
set_option maxHeartbeats 16000000 in
theorem rrd3 {s : List UInt8} {w V : World} {rb p br : Nat} {x y : Cm} {st sf : RS} (HZ : Hid ((CmB y ∧ LenS y) ∧ rb ≠ br))
    (H : Hid (Df w V [(rb, 29, cmZ18)] p br st x none none none 0 0 0)) (HF : Hid (g3 (x, st) = (y, sf))) (HI0 : Hid (x.ifs = [])) (HE0 : Hid (x.thens = [] ∧ x.elses = [])) :
    Code.wp Try.prog (rright 10 (Try.f19.body.getD .skip)) (bodyPost Try.prog Try.f19 (RefRP s y sf w)) { tmps := #[Str s, u1, .pointer (some ⟨rb, 0, none⟩), u3, .pointer (some ⟨p, 0, none⟩), .pointer (some ⟨br, 0, none⟩), u6, u7, u8, u9, u10, u11, u12, u13, u14, u15, u16, u17, u18, u19, u20, u21, u22, u23, u24, u25, u26, u27, u28, u29, u30, u31, u32, u33, u34, u35, u36, u37, u38, u39, u40, u41, u42, u43, u44, u45, u46, u47, u48, u49, u50, u51, u52, u53, u54, u55, u56, u57, u58, u59, u60, u61, u62, u63, u64, u65, u66, u67, u68, u69, u70, u71, u72, u73, u74, u75, u76, u77, u78, u79, u80, u81, u82, u83, u84, u85, u86, u87, u88, u89, u90, u91, u92, u93, u94, u95, u96, u97, u98, u99, u100, u101, u102, u103, u104, u105, u106, u107, u108, u109, u110, u111, u112, u113, u114, u115, u116, u117, u118, u119, u120, u121, u122, u123, u124, u125, u126, u127, u128, u129, u130, u131, u132, u133, u134, u135, u136, u137, u138, u139, u140, u141, u142, u143, u144, u145, u146, u147, u148, u149, u150, u151, u152, u153, u154, u155], defers := [] } V := by
  conv => arg 2; whnf
  have k3 := H.out.cmd.cell 3
  have kl := H.out.cmd.lt
  simp only [cmc, List.getElem?_toArray, List.getElem?_cons_zero, List.getElem?_cons_succ] at k3
  go_wp2_with fail
  refine (hasq83 x.kind _).mono ?_
  rintro e Xp ⟨rfl, kk⟩
  have F2 := Lib.hid (H.out.quiet kk)
  clear kk k3 kl
  go_upto_if 47 with fail
  go_cut [] (fun wx => ∃ (x2 : Cm) (st2 : RS), Hid (Df w wx [(rb, 29, cmZ18)] p br st2 x2 none none none 0 0 0) ∧ Hid (g4 (x2, st2) = (y, sf)) ∧ Hid (x2.ifs = []) ∧ Hid (x2.thens = [] ∧ x2.elses = []))
  case first =>
    cases hN : (hasL x.kind 83) with
    | false =>
      have HN := Lib.hid hN
      have HF2 : Hid (g4 (x, st) = (y, sf)) := Lib.hid (by have := HF.out; unfold g3 sS at this; rwa [if_neg (by simp only [HN.out]; simp)] at this)
      clear hN
      go_wp2_with fail
      go_meet
      exact ⟨x, st, F2, HF2, HI0, HE0⟩
    | true =>
      have HN := Lib.hid hN
      clear hN
      go_wp2_with fail
      refine (df_text F2.out mostN).mono ?_
      rintro e X13 ⟨rfl, t⟩
      have H13 := Lib.hid t
      clear t
      have mc := H13.out.cmd.cell
      have m7 := mc 7
      clear mc
      simp only [cmc, List.getElem?_toArray, List.getElem?_cons_zero, List.getElem?_cons_succ] at m7
      have ml := H13.out.cmd.lt
      have mf7 := H13.out.cmd.frozen 7
      go_wp2_with fail
      have Z0 : Hid (Df w (X13.setCell ⟨br, 7, none⟩ (Str (rtext st mostN).1)) [(rb, 29, cmZ18)] p br ((rtext st mostN).2) (({x with salt := (rtext st mostN).1} : Cm)) none none none 0 0 0) := Lib.hid (H13.out.put0 ((Step.refl [br] X13).setCell (.inl (by simp)) _) (by have hq := H13.out.cmd.set 7 (Str (rtext st mostN).1); simpa [cmc] using hq) rfl HE0.out.1 HE0.out.2)
      go_meet
      exact ⟨({x with salt := (rtext st mostN).1} : Cm), (rtext st mostN).2, Z0, Lib.hid (by have := HF.out; unfold g3 sS at this; rwa [if_pos (by simp only [HN.out])] at this), HI0, HE0⟩
  case rest =>
    rename World => V2
    obtain ⟨x2, st2, H2, HF2, HI2, HE2⟩ := hcut
    rename ∀ (a : Act) (w : World), Code.wp _ _ _ a w → _ => hK
    refine hK _ _ ?_
    exact rrd4 HZ H2 HF2 HI2 HE2
set_option maxHeartbeats 16000000 in
theorem rrd2 {s : List UInt8} {w V : World} {rb p br : Nat} {x y : Cm} {st sf : RS} (HZ : Hid ((CmB y ∧ LenS y) ∧ rb ≠ br))
    (H : Hid (Df w V [(rb, 29, cmZ18)] p br st x none none none 0 0 0)) (HF : Hid (g2 (x, st) = (y, sf))) (HI0 : Hid (x.ifs = [])) (HE0 : Hid (x.thens = [] ∧ x.elses = [])) :
    Code.wp Try.prog (rright 9 (Try.f19.body.getD .skip)) (bodyPost Try.prog Try.f19 (RefRP s y sf w)) { tmps := #[Str s, u1, .pointer (some ⟨rb, 0, none⟩), u3, .pointer (some ⟨p, 0, none⟩), .pointer (some ⟨br, 0, none⟩), u6, u7, u8, u9, u10, u11, u12, u13, u14, u15, u16, u17, u18, u19, u20, u21, u22, u23, u24, u25, u26, u27, u28, u29, u30, u31, u32, u33, u34, u35, u36, u37, u38, u39, u40, u41, u42, u43, u44, u45, u46, u47, u48, u49, u50, u51, u52, u53, u54, u55, u56, u57, u58, u59, u60, u61, u62, u63, u64, u65, u66, u67, u68, u69, u70, u71, u72, u73, u74, u75, u76, u77, u78, u79, u80, u81, u82, u83, u84, u85, u86, u87, u88, u89, u90, u91, u92, u93, u94, u95, u96, u97, u98, u99, u100, u101, u102, u103, u104, u105, u106, u107, u108, u109, u110, u111, u112, u113, u114, u115, u116, u117, u118, u119, u120, u121, u122, u123, u124, u125, u126, u127, u128, u129, u130, u131, u132, u133, u134, u135, u136, u137, u138, u139, u140, u141, u142, u143, u144, u145, u146, u147, u148, u149, u150, u151, u152, u153, u154, u155], defers := [] } V := by
  conv => arg 2; whnf
  have k3 := H.out.cmd.cell 3
  have kl := H.out.cmd.lt
  simp only [cmc, List.getElem?_toArray, List.getElem?_cons_zero, List.getElem?_cons_succ] at k3
  go_wp2_with fail
  refine (hasq87 x.kind _).mono ?_
  rintro e Xp ⟨rfl, kk⟩
  have F2 := Lib.hid (H.out.quiet kk)
  clear kk k3 kl
  go_upto_if 41 with fail
  go_cut [] (fun wx => ∃ (x2 : Cm) (st2 : RS), Hid (Df w wx [(rb, 29, cmZ18)] p br st2 x2 none none none 0 0 0) ∧ Hid (g3 (x2, st2) = (y, sf)) ∧ Hid (x2.ifs = []) ∧ Hid (x2.thens = [] ∧ x2.elses = []))
  case first =>
    cases hN : (hasL x.kind 87) with
    | false =>
      have HN := Lib.hid hN
      have HF2 : Hid (g3 (x, st) = (y, sf)) := Lib.hid (by have := HF.out; unfold g2 sW at this; rwa [if_neg (by simp only [HN.out]; simp)] at this)
      clear hN
      go_wp2_with fail
      go_meet
      exact ⟨x, st, F2, HF2, HI0, HE0⟩
    | true =>
      have HN := Lib.hid hN
      clear hN
      go_wp2_with fail
      refine (df_text F2.out mostN).mono ?_
      rintro e X14 ⟨rfl, t⟩
      have H14 := Lib.hid t
      clear t
      have mc := H14.out.cmd.cell
      have m6 := mc 6
      clear mc
      simp only [cmc, List.getElem?_toArray, List.getElem?_cons_zero, List.getElem?_cons_succ] at m6
      have ml := H14.out.cmd.lt
      have mf6 := H14.out.cmd.frozen 6
      go_wp2_with fail
      have Z0 : Hid (Df w (X14.setCell ⟨br, 6, none⟩ (Str (rtext st mostN).1)) [(rb, 29, cmZ18)] p br ((rtext st mostN).2) (({x with word := (rtext st mostN).1} : Cm)) none none none 0 0 0) := Lib.hid (H14.out.put0 ((Step.refl [br] X14).setCell (.inl (by simp)) _) (by have hq := H14.out.cmd.set 6 (Str (rtext st mostN).1); simpa [cmc] using hq) rfl HE0.out.1 HE0.out.2)
      go_meet
      exact ⟨({x with word := (rtext st mostN).1} : Cm), (rtext st mostN).2, Z0, Lib.hid (by have := HF.out; unfold g2 sW at this; rwa [if_pos (by simp only [HN.out])] at this), HI0, HE0⟩
  case rest =>
    rename World => V2
    obtain ⟨x2, st2, H2, HF2, HI2, HE2⟩ := hcut
    rename ∀ (a : Act) (w : World), Code.wp _ _ _ a w → _ => hK
    refine hK _ _ ?_
    exact rrd3 HZ H2 HF2 HI2 HE2
set_option maxHeartbeats 16000000 in
theorem rrd1 {s : List UInt8} {w V : World} {rb p br : Nat} {x y : Cm} {st sf : RS} (HZ : Hid ((CmB y ∧ LenS y) ∧ rb ≠ br))
    (H : Hid (Df w V [(rb, 29, cmZ18)] p br st x none none none 0 0 0)) (HF : Hid (g1 (x, st) = (y, sf))) (HI0 : Hid (x.ifs = [])) (HE0 : Hid (x.thens = [] ∧ x.elses = [])) :
    Code.wp Try.prog (rright 8 (Try.f19.body.getD .skip)) (bodyPost Try.prog Try.f19 (RefRP s y sf w)) { tmps := #[Str s, u1, .pointer (some ⟨rb, 0, none⟩), u3, .pointer (some ⟨p, 0, none⟩), .pointer (some ⟨br, 0, none⟩), u6, u7, u8, u9, u10, u11, u12, u13, u14, u15, u16, u17, u18, u19, u20, u21, u22, u23, u24, u25, u26, u27, u28, u29, u30, u31, u32, u33, u34, u35, u36, u37, u38, u39, u40, u41, u42, u43, u44, u45, u46, u47, u48, u49, u50, u51, u52, u53, u54, u55, u56, u57, u58, u59, u60, u61, u62, u63, u64, u65, u66, u67, u68, u69, u70, u71, u72, u73, u74, u75, u76, u77, u78, u79, u80, u81, u82, u83, u84, u85, u86, u87, u88, u89, u90, u91, u92, u93, u94, u95, u96, u97, u98, u99, u100, u101, u102, u103, u104, u105, u106, u107, u108, u109, u110, u111, u112, u113, u114, u115, u116, u117, u118, u119, u120, u121, u122, u123, u124, u125, u126, u127, u128, u129, u130, u131, u132, u133, u134, u135, u136, u137, u138, u139, u140, u141, u142, u143, u144, u145, u146, u147, u148, u149, u150, u151, u152, u153, u154, u155], defers := [] } V := by
  conv => arg 2; whnf
  have k3 := H.out.cmd.cell 3
  have kl := H.out.cmd.lt
  simp only [cmc, List.getElem?_toArray, List.getElem?_cons_zero, List.getElem?_cons_succ] at k3
  go_wp2_with fail
  refine (hasq79 x.kind _).mono ?_
  rintro e Xp ⟨rfl, kk⟩
  have F2 := Lib.hid (H.out.quiet kk)
  clear kk k3 kl
  go_upto_if 35 with fail
  go_cut [] (fun wx => ∃ (x2 : Cm) (st2 : RS), Hid (Df w wx [(rb, 29, cmZ18)] p br st2 x2 none none none 0 0 0) ∧ Hid (g2 (x2, st2) = (y, sf)) ∧ Hid (x2.ifs = []) ∧ Hid (x2.thens = [] ∧ x2.elses = []))
  case first =>
    cases hN : (hasL x.kind 79) with
    | false =>
      have HN := Lib.hid hN
      have HF2 : Hid (g2 (x, st) = (y, sf)) := Lib.hid (by have := HF.out; unfold g1 sO at this; rwa [if_neg (by simp only [HN.out]; simp)] at this)
      clear hN
      go_wp2_with fail
      go_meet
      exact ⟨x, st, F2, HF2, HI0, HE0⟩
    | true =>
      have HN := Lib.hid hN
      clear hN
      go_wp2_with fail
      refine (df_text F2.out mostN).mono ?_
      rintro e X15 ⟨rfl, t⟩
      have H15 := Lib.hid t
      clear t
      have mc := H15.out.cmd.cell
      have m5 := mc 5
      clear mc
      simp only [cmc, List.getElem?_toArray, List.getElem?_cons_zero, List.getElem?_cons_succ] at m5
      have ml := H15.out.cmd.lt
      have mf5 := H15.out.cmd.frozen 5
      go_wp2_with fail
      have Z0 : Hid (Df w (X15.setCell ⟨br, 5, none⟩ (Str (rtext st mostN).1)) [(rb, 29, cmZ18)] p br ((rtext st mostN).2) (({x with other := (rtext st mostN).1} : Cm)) none none none 0 0 0) := Lib.hid (H15.out.put0 ((Step.refl [br] X15).setCell (.inl (by simp)) _) (by have hq := H15.out.cmd.set 5 (Str (rtext st mostN).1); simpa [cmc] using hq) rfl HE0.out.1 HE0.out.2)
      go_meet
      exact ⟨({x with other := (rtext st mostN).1} : Cm), (rtext st mostN).2, Z0, Lib.hid (by have := HF.out; unfold g1 sO at this; rwa [if_pos (by simp only [HN.out])] at this), HI0, HE0⟩
  case rest =>
    rename World => V2
    obtain ⟨x2, st2, H2, HF2, HI2, HE2⟩ := hcut
    rename ∀ (a : Act) (w : World), Code.wp _ _ _ a w → _ => hK
    refine hK _ _ ?_
    exact rrd2 HZ H2 HF2 HI2 HE2
set_option maxHeartbeats 16000000 in
theorem rrd0 {s : List UInt8} {w V : World} {rb p br : Nat} {x y : Cm} {st sf : RS} (HZ : Hid ((CmB y ∧ LenS y) ∧ rb ≠ br))
    (H : Hid (Df w V [(rb, 29, cmZ18)] p br st x none none none 0 0 0)) (HF : Hid (g0 (x, st) = (y, sf))) (HI0 : Hid (x.ifs = [])) (HE0 : Hid (x.thens = [] ∧ x.elses = [])) :
    Code.wp Try.prog (rright 7 (Try.f19.body.getD .skip)) (bodyPost Try.prog Try.f19 (RefRP s y sf w)) { tmps := #[Str s, u1, .pointer (some ⟨rb, 0, none⟩), u3, .pointer (some ⟨p, 0, none⟩), .pointer (some ⟨br, 0, none⟩), u6, u7, u8, u9, u10, u11, u12, u13, u14, u15, u16, u17, u18, u19, u20, u21, u22, u23, u24, u25, u26, u27, u28, u29, u30, u31, u32, u33, u34, u35, u36, u37, u38, u39, u40, u41, u42, u43, u44, u45, u46, u47, u48, u49, u50, u51, u52, u53, u54, u55, u56, u57, u58, u59, u60, u61, u62, u63, u64, u65, u66, u67, u68, u69, u70, u71, u72, u73, u74, u75, u76, u77, u78, u79, u80, u81, u82, u83, u84, u85, u86, u87, u88, u89, u90, u91, u92, u93, u94, u95, u96, u97, u98, u99, u100, u101, u102, u103, u104, u105, u106, u107, u108, u109, u110, u111, u112, u113, u114, u115, u116, u117, u118, u119, u120, u121, u122, u123, u124, u125, u126, u127, u128, u129, u130, u131, u132, u133, u134, u135, u136, u137, u138, u139, u140, u141, u142, u143, u144, u145, u146, u147, u148, u149, u150, u151, u152, u153, u154, u155], defers := [] } V := by
  conv => arg 2; whnf
  have k3 := H.out.cmd.cell 3
  have kl := H.out.cmd.lt
  simp only [cmc, List.getElem?_toArray, List.getElem?_cons_zero, List.getElem?_cons_succ] at k3
  go_wp2_with fail
  refine (hasq78 x.kind _).mono ?_
  rintro e Xp ⟨rfl, kk⟩
  have F2 := Lib.hid (H.out.quiet kk)
  clear kk k3 kl
  go_upto_if 29 with fail
  go_cut [] (fun wx => ∃ (x2 : Cm) (st2 : RS), Hid (Df w wx [(rb, 29, cmZ18)] p br st2 x2 none none none 0 0 0) ∧ Hid (g1 (x2, st2) = (y, sf)) ∧ Hid (x2.ifs = []) ∧ Hid (x2.thens = [] ∧ x2.elses = []))
  case first =>
    cases hN : (hasL x.kind 78) with
    | false =>
      have HN := Lib.hid hN
      have HF2 : Hid (g1 (x, st) = (y, sf)) := Lib.hid (by have := HF.out; unfold g0 sN at this; rwa [if_neg (by simp only [HN.out]; simp)] at this)
      clear hN
      go_wp2_with fail
      go_meet
      exact ⟨x, st, F2, HF2, HI0, HE0⟩
    | true =>
      have HN := Lib.hid hN
      clear hN
      go_wp2_with fail
      refine (df_text F2.out mostN).mono ?_
      rintro e X16 ⟨rfl, t⟩
      have H16 := Lib.hid t
      clear t
      have mc := H16.out.cmd.cell
      have m4 := mc 4
      clear mc
      simp only [cmc, List.getElem?_toArray, List.getElem?_cons_zero, List.getElem?_cons_succ] at m4
      have ml := H16.out.cmd.lt
      have mf4 := H16.out.cmd.frozen 4
      go_wp2_with fail
      have Z0 : Hid (Df w (X16.setCell ⟨br, 4, none⟩ (Str (rtext st mostN).1)) [(rb, 29, cmZ18)] p br ((rtext st mostN).2) (({x with name := (rtext st mostN).1} : Cm)) none none none 0 0 0) := Lib.hid (H16.out.put0 ((Step.refl [br] X16).setCell (.inl (by simp)) _) (by have hq := H16.out.cmd.set 4 (Str (rtext st mostN).1); simpa [cmc] using hq) rfl HE0.out.1 HE0.out.2)
      go_meet
      exact ⟨({x with name := (rtext st mostN).1} : Cm), (rtext st mostN).2, Z0, Lib.hid (by have := HF.out; unfold g0 sN at this; rwa [if_pos (by simp only [HN.out])] at this), HI0, HE0⟩
  case rest =>
    rename World => V2
    obtain ⟨x2, st2, H2, HF2, HI2, HE2⟩ := hcut
    rename ∀ (a : Act) (w : World), Code.wp _ _ _ a w → _ => hK
    refine hK _ _ ?_
    exact rrd1 HZ H2 HF2 HI2 HE2
end
set_option maxHeartbeats 16000000 in
theorem refRead_any (s : List UInt8) (w : World) (hs : s.length ≤ 20000) : Calls Try.prog 19 #[Str s] w (RefRP s (refC ⟨s, false⟩).1 (refC ⟨s, false⟩).2 w) := by
  have HZ0 := Lib.hid (Df.init w s (by omega))
  have HBD := Lib.hid (refC_bound s hs)
  go_enter Try.func19, Try.ntmps19
  go_upto_region 3 with fail
  change Code.wp _ _ _ _ (((w.alloc (.cells cmZ18 29)).alloc (.cells #[Str s, .bool false] 120)).alloc (.cells cmZ18 29))
  obtain ⟨rb, hrb⟩ : ∃ rb, rb = w.heap.size := ⟨_, rfl⟩
  obtain ⟨p, hp⟩ : ∃ p, p = w.heap.size + 1 := ⟨_, rfl⟩
  obtain ⟨br, hbr⟩ : ∃ br, br = w.heap.size + 1 + 1 := ⟨_, rfl⟩
  obtain ⟨V0, hV0⟩ : ∃ V0, V0 = (((w.alloc (.cells cmZ18 29)).alloc (.cells #[Str s, .bool false] 120)).alloc (.cells cmZ18 29)) := ⟨_, rfl⟩
  rw [← hV0, ← hbr, ← hp, ← hrb] at HZ0
  rw [← hV0]
  try rw [← hbr]
  try rw [← hp]
  try rw [← hrb]
  have HNB : Hid (rb ≠ br) := Lib.hid (by omega)
  clear hV0 hbr hp hrb
  have HZ0x : Hid (Df w V0 [(rb, 29, cmZ18)] p br (⟨s, false⟩ : RS) (⟨0, 0, [], 0, [], [], [], [], 0, 0, [], [], false, false, 0, [], [], []⟩ : Cm) none none none 0 0 0) := HZ0
  clear HZ0
  have HE0 : Hid (cmZ.thens = [] ∧ cmZ.elses = []) := Lib.hid ⟨rfl, rfl⟩
  go_wp2_with fail
  refine (df_upto HZ0x.out mostN).mono ?_
  rintro e X17 ⟨rfl, t⟩
  have H17 := Lib.hid t
  clear t
  have mc := H17.out.cmd.cell
  have m3 := mc 3
  clear mc
  simp only [cmc, List.getElem?_toArray, List.getElem?_cons_zero, List.getElem?_cons_succ] at m3
  have ml := H17.out.cmd.lt
  have mf3 := H17.out.cmd.frozen 3
  go_upto_region 4 with fail
  have Z0 : Hid (Df w (X17.setCell ⟨br, 3, none⟩ (.int .i64 (upto (⟨s, false⟩ : RS) mostN).1)) [(rb, 29, cmZ18)] p br ((upto (⟨s, false⟩ : RS) mostN).2) ((⟨0, 0, [], (upto (⟨s, false⟩ : RS) mostN).1, [], [], [], [], 0, 0, [], [], false, false, 0, [], [], []⟩ : Cm)) none none none 0 0 0) := Lib.hid (H17.out.put0 ((Step.refl [br] X17).setCell (.inl (by simp)) _) (by have hq := H17.out.cmd.set 3 (.int .i64 (upto (⟨s, false⟩ : RS) mostN).1); simpa [cmc] using hq) rfl HE0.out.1 HE0.out.2)
  obtain ⟨U0, hU⟩ : ∃ U, U = (X17.setCell ⟨br, 3, none⟩ (.int .i64 (upto (⟨s, false⟩ : RS) mostN).1)) := ⟨_, rfl⟩
  rw [← hU] at Z0
  rw [← hU]
  clear hU m3 ml mf3
  go_wp2_with fail
  refine (df_upto Z0.out mostN).mono ?_
  rintro e X18 ⟨rfl, t⟩
  have H18 := Lib.hid t
  clear t
  have mc := H18.out.cmd.cell
  have m0 := mc 0
  clear mc
  simp only [cmc, List.getElem?_toArray, List.getElem?_cons_zero, List.getElem?_cons_succ] at m0
  have ml := H18.out.cmd.lt
  have mf0 := H18.out.cmd.frozen 0
  go_upto_region 5 with fail
  have Z1 : Hid (Df w (X18.setCell ⟨br, 0, none⟩ (.int .i64 (upto (upto (⟨s, false⟩ : RS) mostN).2 mostN).1)) [(rb, 29, cmZ18)] p br ((upto (upto (⟨s, false⟩ : RS) mostN).2 mostN).2) ((⟨(upto (upto (⟨s, false⟩ : RS) mostN).2 mostN).1, 0, [], (upto (⟨s, false⟩ : RS) mostN).1, [], [], [], [], 0, 0, [], [], false, false, 0, [], [], []⟩ : Cm)) none none none 0 0 0) := Lib.hid (H18.out.put0 ((Step.refl [br] X18).setCell (.inl (by simp)) _) (by have hq := H18.out.cmd.set 0 (.int .i64 (upto (upto (⟨s, false⟩ : RS) mostN).2 mostN).1); simpa [cmc] using hq) rfl HE0.out.1 HE0.out.2)
  obtain ⟨U1, hU⟩ : ∃ U, U = (X18.setCell ⟨br, 0, none⟩ (.int .i64 (upto (upto (⟨s, false⟩ : RS) mostN).2 mostN).1)) := ⟨_, rfl⟩
  rw [← hU] at Z1
  rw [← hU]
  clear hU m0 ml mf0
  go_wp2_with fail
  refine (df_upto Z1.out mostN).mono ?_
  rintro e X19 ⟨rfl, t⟩
  have H19 := Lib.hid t
  clear t
  have mc := H19.out.cmd.cell
  have m1 := mc 1
  clear mc
  simp only [cmc, List.getElem?_toArray, List.getElem?_cons_zero, List.getElem?_cons_succ] at m1
  have ml := H19.out.cmd.lt
  have mf1 := H19.out.cmd.frozen 1
  go_upto_region 6 with fail
  have Z2 : Hid (Df w (X19.setCell ⟨br, 1, none⟩ (.int .i64 (upto (upto (upto (⟨s, false⟩ : RS) mostN).2 mostN).2 mostN).1)) [(rb, 29, cmZ18)] p br ((upto (upto (upto (⟨s, false⟩ : RS) mostN).2 mostN).2 mostN).2) ((⟨(upto (upto (⟨s, false⟩ : RS) mostN).2 mostN).1, (upto (upto (upto (⟨s, false⟩ : RS) mostN).2 mostN).2 mostN).1, [], (upto (⟨s, false⟩ : RS) mostN).1, [], [], [], [], 0, 0, [], [], false, false, 0, [], [], []⟩ : Cm)) none none none 0 0 0) := Lib.hid (H19.out.put0 ((Step.refl [br] X19).setCell (.inl (by simp)) _) (by have hq := H19.out.cmd.set 1 (.int .i64 (upto (upto (upto (⟨s, false⟩ : RS) mostN).2 mostN).2 mostN).1); simpa [cmc] using hq) rfl HE0.out.1 HE0.out.2)
  obtain ⟨U2, hU⟩ : ∃ U, U = (X19.setCell ⟨br, 1, none⟩ (.int .i64 (upto (upto (upto (⟨s, false⟩ : RS) mostN).2 mostN).2 mostN).1)) := ⟨_, rfl⟩
  rw [← hU] at Z2
  rw [← hU]
  clear hU m1 ml mf1
  go_cut [] (fun wx => Hid (Df w wx [(rb, 29, cmZ18)] p br ((rtext (upto (upto (upto (⟨s, false⟩ : RS) mostN).2 mostN).2 mostN).2 mostN).2) ((⟨(upto (upto (⟨s, false⟩ : RS) mostN).2 mostN).1, (upto (upto (upto (⟨s, false⟩ : RS) mostN).2 mostN).2 mostN).1, (rtext (upto (upto (upto (⟨s, false⟩ : RS) mostN).2 mostN).2 mostN).2 mostN).1, (upto (⟨s, false⟩ : RS) mostN).1, [], [], [], [], 0, 0, [], [], false, false, 0, [], [], []⟩ : Cm)) none none none 0 0 0))
  case first =>
    go_wp2_with fail
    refine (df_text Z2.out mostN).mono ?_
    rintro e X20 ⟨rfl, t⟩
    have H20 := Lib.hid t
    clear t
    have mc := H20.out.cmd.cell
    have m2 := mc 2
    clear mc
    simp only [cmc, List.getElem?_toArray, List.getElem?_cons_zero, List.getElem?_cons_succ] at m2
    have ml := H20.out.cmd.lt
    have mf2 := H20.out.cmd.frozen 2
    go_wp2_with fail
    have Z9 : Hid (Df w (X20.setCell ⟨br, 2, none⟩ (Str (rtext (upto (upto (upto (⟨s, false⟩ : RS) mostN).2 mostN).2 mostN).2 mostN).1)) [(rb, 29, cmZ18)] p br ((rtext (upto (upto (upto (⟨s, false⟩ : RS) mostN).2 mostN).2 mostN).2 mostN).2) ((⟨(upto (upto (⟨s, false⟩ : RS) mostN).2 mostN).1, (upto (upto (upto (⟨s, false⟩ : RS) mostN).2 mostN).2 mostN).1, (rtext (upto (upto (upto (⟨s, false⟩ : RS) mostN).2 mostN).2 mostN).2 mostN).1, (upto (⟨s, false⟩ : RS) mostN).1, [], [], [], [], 0, 0, [], [], false, false, 0, [], [], []⟩ : Cm)) none none none 0 0 0) := Lib.hid (H20.out.put0 ((Step.refl [br] X20).setCell (.inl (by simp)) _) (by have hq := H20.out.cmd.set 2 (Str (rtext (upto (upto (upto (⟨s, false⟩ : RS) mostN).2 mostN).2 mostN).2 mostN).1); simpa [cmc] using hq) rfl HE0.out.1 HE0.out.2)
    go_meet
    exact Z9
  case rest =>
    rename World => V2
    have H2 := hcut
    rename ∀ (a : Act) (w : World), Code.wp _ _ _ a w → _ => hK
    refine hK _ _ ?_
    exact rrd0 (Lib.hid ⟨⟨HBD.out.1, HBD.out.2.1⟩, HNB.out⟩) H2 (Lib.hid (refC_steps _).symm) (Lib.hid rfl) (Lib.hid ⟨rfl, rfl⟩)
end Go.Proofs.Ytifjnpdnnfdcoaa
