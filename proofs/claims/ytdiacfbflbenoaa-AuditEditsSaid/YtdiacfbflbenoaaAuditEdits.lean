/-
  AuditEdits: two lists of lines that are verified with one head are alike, or two unlike texts with one digest are shown. No condition beyond the row's.
-/
import Derived.Test.YtdiacfbflbenoaaAuditPl
import Derived.Test.YtdiacfbflbenoaaAuditCol
import Derived.Test.YtdiacfbflbenoaaAuditOpen2
import Derived.Test.YtdiacfbflbenoaaRows
namespace Go.Proofs.Ytdiacfbflbenoaa
open Go.RowKit Go.Lib Go.ChangeShapes Go.WideShapes Go.ChangeAt
set_option linter.unusedSimpArgs false
set_option linter.unusedVariables false
set_option maxRecDepth 100000

/-- A chain, and a line in a block of its own. -/
def One (w0 w : World) (p : Nat) (c : Ch) (b : Nat) (x : Ln) : Prop := ∃ S, Chn w p S c ∧ Step [] S w0 w ∧ Blk w b 32 (lnc x).toArray ∧ b ∉ S
theorem One.quiet {w0 w w' : World} {p b : Nat} {c : Ch} {x : Ln} (h : One w0 w p c b x) (k : Step [] [] w w') : One w0 w' p c b x := by
  obtain ⟨S, h1, h2, h3, h4⟩ := h
  exact ⟨S, h1.step k (by simp), h2.trans (k.up _), h3.step k (by simp), h4⟩
theorem One.out {w0 w : World} {p b : Nat} {c : Ch} {x : Ln} (h : One w0 w p c b x) : Step [] [] w0 w := by
  obtain ⟨S, h1, h2, h3, h4⟩ := h
  exact h2.drop (by simp)
theorem One.blk {w0 w : World} {p b : Nat} {c : Ch} {x : Ln} (h : One w0 w p c b x) : Blk w b 32 (lnc x).toArray := by
  obtain ⟨S, h1, h2, h3, h4⟩ := h
  exact h3
theorem one_add {w0 w : World} {p b : Nat} {c : Ch} {y : Ln} (h : One w0 w p c b y) (x : Ln) (hc : ChOk c) (hx : LnOk x) (hh : (headL c.base c.ls).hash.length ≤ 1073741824) :
    Calls Try.prog 10 #[.pointer (some ⟨p, 0, none⟩), lnV x] w fun e w' => e = .returned (.bool (canAdd c x)) ∧ One w0 w' p (addL c x) b y := by
  obtain ⟨S, h1, h2, h3, h4⟩ := h
  refine (add_any p S c x w h1 hc hx hh).mono ?_
  rintro e w' ⟨S', he, g, k⟩
  exact ⟨he, S', g, h2.trans k, h3.step k h4, k.notin h3.lt h4⟩
theorem one_head {w0 w : World} {p b : Nat} {c : Ch} {y : Ln} (h : One w0 w p c b y) (hc : ChOk c) :
    Calls Try.prog 14 #[.pointer (some ⟨p, 0, none⟩)] w fun e w' => e = .returned (.tuple #[.int .i64 (headL c.base c.ls).count, Str (headL c.base c.ls).hash]) ∧ One w0 w' p c b y := by
  have H := h
  obtain ⟨S, h1, h2, h3, h4⟩ := h
  exact (headOut_any p S c w h1 hc).mono fun e w' ⟨he, k⟩ => ⟨he, H.quiet k⟩
theorem one_base {w0 w : World} {p b : Nat} {c : Ch} {y : Ln} (h : One w0 w p c b y) :
    Calls Try.prog 15 #[.pointer (some ⟨p, 0, none⟩)] w fun e w' => e = .returned (.tuple #[.int .i64 c.base.count, Str c.base.hash]) ∧ One w0 w' p c b y := by
  have H := h
  obtain ⟨S, h1, h2, h3, h4⟩ := h
  exact (base_any p S c w h1).mono fun e w' ⟨he, k⟩ => ⟨he, H.quiet k⟩
def OneLines (w0 : World) (p : Nat) (c : Ch) (b : Nat) (y : Ln) (e : Ending) (w' : World) : Prop := ∃ a cap, e = .returned (.slice a c.ls.length cap) ∧ Rd w' 8 a c.ls.length (lncs c.ls) ∧ One w0 w' p c b y
theorem one_lines {w0 w : World} {p b : Nat} {c : Ch} {y : Ln} (h : One w0 w p c b y) (hc : ChOk c) :
    Calls Try.prog 18 #[.pointer (some ⟨p, 0, none⟩)] w (OneLines w0 p c b y) := by
  have H := h
  obtain ⟨S, h1, h2, h3, h4⟩ := h
  refine (lines_any p S c w h1 hc).mono ?_
  rintro e w' ⟨a, cap, rfl, g, k⟩
  exact ⟨a, cap, rfl, g.rd, H.quiet (k.drop (by simp))⟩
theorem spoilt_ok {l : List Ln} {i : Int} {x : Ln} (h : ∀ y ∈ l, LnOk y) (hx : LnOk x) : ∀ y ∈ spoiltL l i x, LnOk y := by
  unfold spoiltL
  split
  · intro y hy
    rcases List.mem_or_eq_of_mem_set hy with h1 | h1
    · exact h y h1
    · rw [h1]; exact hx
  · exact h
set_option maxHeartbeats 8000000 in
theorem edits19_any (l : List Ln) (a : Option Addr) (ca : Nat) (n : Int) (o : Ln) (w : World) (hl : Rd w 8 a l.length (lncs l)) (h1 : l.length ≤ 140737488351232) (hx : ∀ x ∈ l, LnIn x) (ho : LnIn o) (hn : -9223372036854775808 ≤ n ∧ n < 9223372036854775808) :
    Calls Try.prog 6 #[.slice a l.length ca, .int .i64 n, lnV o] w fun e w' => e = .returned (.bool true) ∧ Step [] [] w w' := by
  have H0 : Hid ((Rd (w.alloc (.cells (lnc o).toArray 32)) 8 a l.length (lncs l) ∧ Step [] [] w (w.alloc (.cells (lnc o).toArray 32)) ∧ Blk (w.alloc (.cells (lnc o).toArray 32)) w.heap.size 32 (lnc o).toArray) ∧ (∀ x ∈ l, LnIn x) ∧ LnIn o) := ⟨⟨hl.alloc _, (Step.refl [] w).alloc _, Blk.new w _ _⟩, hx, ho⟩
  have HNI := Lib.hid hn
  have HRD := Lib.hid hl
  clear hl hx ho hn
  go_enter Try.func6, Try.ntmps6
  go_wp2_with fail
  refine (awake19_true _).mono ?_
  rintro e w1 ⟨rfl, k1⟩
  obtain ⟨b, hb⟩ : ∃ b, b = w.heap.size := ⟨_, rfl⟩
  have H1 : Hid (Rd w1 8 a l.length (lncs l) ∧ Step [] [] w w1 ∧ Blk w1 b 32 (lnc o).toArray) := by
    rw [hb]
    exact ⟨H0.out.1.1.step0 k1, H0.out.1.2.1.trans k1, H0.out.1.2.2.step k1 (by simp)⟩
  rw [← hb]
  clear k1 hb
  go_wp2_with fail
  refine (great_any l a ca w1 H1.out.1 h1).mono ?_
  rintro e w2 ⟨rfl, rfl⟩
  cases hgl : greatL l with
  | true =>
    go_wp2_with fail
    exact bodyPost_ret (results_tmp rfl _ _ _) rfl ⟨rfl, H1.out.2.1⟩
  | false =>
    have GL : Hid (l.length ≤ 60 ∧ ∀ x ∈ l, LnOk x) := ⟨(greatL_len hgl).1, fun x hm => (H0.out.2.1 x hm).ok ((greatL_len hgl).2 x hm)⟩
    clear hgl
    have bl := H1.out.2.2.ln
    have ll := H1.out.2.2.lt
    go_wp2_with fail
    have HG := great_any [o] (some ⟨w1.heap.size, 0, none⟩) 1 (w1.alloc (.cells (lnc o).toArray 32)) (by simpa [lncs] using rd_blk (Blk.new w1 32 (lnc o).toArray) 8 1 rfl) (by simp)
    rw [List.length_singleton] at HG
    refine HG.mono ?_
    rintro e w3 ⟨rfl, rfl⟩
    have H2 : Hid (Rd (w1.alloc (.cells (lnc o).toArray 32)) 8 a l.length (lncs l) ∧ Step [] [] w (w1.alloc (.cells (lnc o).toArray 32)) ∧ Blk (w1.alloc (.cells (lnc o).toArray 32)) b 32 (lnc o).toArray) := ⟨H1.out.1.alloc _, H1.out.2.1.alloc _, H1.out.2.2.alloc _⟩
    clear HG bl ll
    cases hgo : greatL [o] with
    | true =>
      go_wp2_with fail
      exact bodyPost_ret (results_tmp rfl _ _ _) rfl ⟨rfl, H2.out.2.1⟩
    | false =>
      have HO : Hid (LnOk o) := H0.out.2.2.ok ((greatL_len hgo).2 o (by simp))
      clear hgo
      go_wp2_with fail
      refine (auditNew_any _).mono ?_
      rintro e w4 ⟨p, rfl, hp, k4⟩
      have H4 : Hid (Rd w4 8 a l.length (lncs l) ∧ One w w4 p newL b o) := ⟨H2.out.1.step0 k4, [p], hp, H2.out.2.1.trans k4, H2.out.2.2.step k4 (by simp), k4.notin H2.out.2.2.lt (by simp)⟩
      clear hp k4 H2 H1
      go_wp2_with fail
      go_loopw [31] (fun i W => ∃ (k : Nat) (c : Ch), i = .int .i64 k ∧ k ≤ l.length ∧ Hid (One w W p c b o ∧ Fit2 c k ∧ c.base = ⟨0, zeros⟩)) (fun i _ => l.length - (intOf i).toNat)
      case atStart => exact ⟨0, newL, rfl, by omega, H4.out.2, Fit2.new, rfl⟩
      case round =>
        clear H4
        rename World => W
        obtain ⟨k, c, rfl, hk, HW⟩ := hrel
        have hl60 := GL.out.1
        by_cases hlt : k < l.length
        · have hlt' : (k : Int) < l.length := by omega
          obtain ⟨x, hx⟩ : ∃ x, l[k]? = some x := ⟨_, List.getElem?_eq_getElem hlt⟩
          have hrd := HRD.out.step0 HW.out.1.out
          obtain ⟨g, off, rfl⟩ := hrd.some_ (by omega)
          have cx := rd_line hrd hx
          have gl : g < W.heap.size := by have := World.block_lt_of_cell? _ _ cx.1; simpa using this
          have LX := Lib.hid (GL.out.2 x (List.mem_of_getElem? hx))
          have HCK : Hid (ChOk c) := HW.out.2.1.chok (by omega)
          clear hx hrd
          go_wp2_with fail
          refine (one_add (HW.out.1.quiet ((Step.refl [] W).alloc (.cells (lnc x).toArray 32))) x HCK.out LX.out HW.out.2.1.hash).mono ?_
          rintro e V3 ⟨rfl, t3⟩
          have H3 := Lib.hid t3
          clear t3 cx gl
          go_wp2_with fail
          go_roundw
          case rel => exact ⟨k + 1, addL c x, by go_num, by omega, H3.out, HW.out.2.1.add x LX.out, by rw [addL_base]; exact HW.out.2.2⟩
          case measure => simp [intOf]; omega
        · obtain rfl : k = l.length := by omega
          have HCK : Hid (ChOk c) := HW.out.2.1.chok (by omega)
          have HFT := Lib.hid HW.out.2
          go_wp2_with fail
          refine (one_base HW.out.1).mono ?_
          rintro e W6 ⟨rfl, t6⟩
          rw [HFT.out.2]
          have H6 := Lib.hid t6
          clear t6 HW
          go_wp2_with fail
          refine (one_head H6.out HCK.out).mono ?_
          rintro e W7 ⟨rfl, t7⟩
          obtain ⟨z, hz⟩ : ∃ z, z = headL c.base c.ls := ⟨_, rfl⟩
          have HZ := Lib.hid hz
          rw [← hz]
          have H7 := Lib.hid t7
          clear t7 H6 hz
          go_wp2_with fail
          refine (one_lines H7.out HCK.out).mono ?_
          rintro e W8 ⟨a8, cap8, rfl, r8, t8⟩
          have H8 := Lib.hid (And.intro r8 t8)
          clear r8 t8 H7
          have bl := H8.out.2.blk.ln
          have ll := H8.out.2.blk.lt
          go_wp2_with fail
          refine (spoilt_any c.ls n o a8 cap8 W8 H8.out.1 HCK.out.len HNI.out.1 HNI.out.2).mono ?_
          rintro e W9 ⟨a9, cap9, rfl, r9, k9⟩
          obtain ⟨m, hm⟩ : ∃ m, m = spoiltL c.ls n o := ⟨_, rfl⟩
          have hml : m.length = c.ls.length := by rw [hm]; exact spoilt_len _ _ _
          have HM : Hid (m.length = c.ls.length ∧ (∀ y ∈ m, LnOk y)) := ⟨hml, by rw [hm]; exact spoilt_ok HFT.out.1.ok HO.out⟩
          have h9len : (spoiltL c.ls n o).length = c.ls.length := spoilt_len _ _ _
          rw [h9len] at r9 ⊢
          rw [← hm] at r9
          have H9 : Hid (Rd W9 8 a8 c.ls.length (lncs c.ls) ∧ Rd W9 8 a9 c.ls.length (lncs m) ∧ Step [] [] w W9) := ⟨H8.out.1.step0 k9, r9, H8.out.2.out.trans k9⟩
          clear r9 k9 H8 bl ll hm h9len hml
          have HS : Hid (Calls Try.prog 19 #[.slice a8 c.ls.length cap8, .slice a9 c.ls.length cap9] W9 fun e w' => e = .returned (.bool (decide (c.ls = m))) ∧ Step [] [] W9 w') := by
            have := refSame_any c.ls m a8 a9 cap8 cap9 W9 H9.out.1 (by rw [HM.out.1]; exact H9.out.2.1) HCK.out.len (by rw [HM.out.1]; exact HCK.out.len)
            rw [HM.out.1] at this
            exact this
          go_wp2_with fail
          refine HS.out.mono ?_
          rintro e W10 ⟨rfl, k10⟩
          have H10 : Hid (Rd W10 8 a8 c.ls.length (lncs c.ls) ∧ Rd W10 8 a9 c.ls.length (lncs m) ∧ Step [] [] w W10) := ⟨H9.out.1.step0 k10, H9.out.2.1.step0 k10, H9.out.2.2.trans k10⟩
          clear k10 H9 HS
          by_cases hne : c.ls = m
          · rw [decide_eq_true hne]
            clear hne
            go_wp2_with fail
            exact bodyPost_ret (results_tmp rfl _ _ _) rfl ⟨rfl, H10.out.2.2⟩
          · rw [decide_eq_false hne]
            have HNE := Lib.hid hne
            clear hne
            have HVF : Hid (Calls Try.prog 17 #[.int .i64 0, Str zeros, .slice a9 c.ls.length cap9, .int .i64 z.count, Str z.hash] W10 fun e w' => e = .returned (.bool (verifyL ⟨0, zeros⟩ m z)) ∧ Step [] [] W10 w') := by
              have := verify_any ⟨0, zeros⟩ m a9 cap9 z W10 (by rw [HM.out.1]; exact H10.out.2.1) (by rw [HM.out.1]; exact HCK.out.len) HM.out.2 (by simp)
              rw [HM.out.1] at this
              exact this
            go_wp2_with fail
            refine HVF.out.mono ?_
            rintro e W11 ⟨rfl, k11⟩
            have H11 : Hid (Rd W11 8 a8 c.ls.length (lncs c.ls) ∧ Rd W11 8 a9 c.ls.length (lncs m) ∧ Step [] [] w W11) := ⟨H10.out.1.step0 k11, H10.out.2.1.step0 k11, H10.out.2.2.trans k11⟩
            clear k11 H10 HVF
            cases hv : verifyL ⟨0, zeros⟩ m z with
            | false =>
              clear hv
              go_wp2_with fail
              exact bodyPost_ret (results_tmp rfl _ _ _) rfl ⟨rfl, H11.out.2.2⟩
            | true =>
              have hvl : verifyL ⟨0, zeros⟩ c.ls z = true := by have := HFT.out.1.inv.verify; rw [← HZ.out, HFT.out.2] at this; exact this
              obtain ⟨vl, el, wl⟩ := ver_of hvl
              obtain ⟨vm, em, wm⟩ := ver_of hv
              have hhd : headL ⟨0, zeros⟩ c.ls = headL ⟨0, zeros⟩ m := by rw [← el, ← em]
              have HCL := Lib.hid (collide_any zeros c.ls m c.ls.length a8 a9 cap8 cap9 W11 H11.out.1 H11.out.2.1 rfl HM.out.1 (by have := HCK.out.len; have := HFT.out.1.base; omega) HFT.out.1.ok HM.out.2 vl vm wl hhd HNE.out)
              clear hv hvl vl el wl vm em wm hhd
              go_wp2_with fail
              refine HCL.out.mono ?_
              rintro e W12 ⟨x, y, rfl, hxy, hsh, hlx, hly, k12⟩
              have H12 := Lib.hid (And.intro hsh (And.intro hlx (And.intro hly (H11.out.2.2.trans k12))))
              have hxb : (x == y) = false := by simpa using hxy
              have hxb2 : (!x == y) = true := by simpa using hxy
              clear hxy hsh hlx hly k12 HCL H11
              go_wp2_with fail
              refine (refSum_any x W12 H12.out.2.1).mono ?_
              rintro e W13 ⟨rfl, k13⟩
              have H13 := Lib.hid (H12.out.2.2.2.trans k13)
              clear k13
              go_wp2_with fail
              refine (refSum_any y W13 H12.out.2.2.1).mono ?_
              rintro e W14 ⟨rfl, k14⟩
              rw [H12.out.1]
              have H14 := Lib.hid (H13.out.trans k14)
              clear k14
              go_wp2_with fail
              exact bodyPost_ret (results_tmp rfl _ _ _) rfl ⟨rfl, H14.out⟩

theorem AuditEdits_walk (v0 v1 v2 : Value) (w : World) {b0 b1 b2 : Nat} (hv0 : Value.okWide Try.prog w .any b0 27 v0) (h0 : Op Try.prog w 27 v0.cells.toList) (hv1 : Value.okWide Try.prog w .any b1 3 v1) (h1 : Op Try.prog w 3 v1.cells.toList) (hv2 : Value.okWide Try.prog w .any b2 32 v2) (h2 : Op Try.prog w 32 v2.cells.toList) :
    Calls Try.prog 6 #[v0, v1, v2] w fun e w' => e = .returned (.bool true) ∧ Below w.heap.size w w' := by
  obtain ⟨a, n, cap, rfl⟩ := okWide_slice Try.underlying27 hv0
  obtain ⟨a', cap', l, e, hl, hr, hx⟩ := op_lines h0
  injection e with e1 e2 e3
  subst e1 e2 e3
  obtain ⟨k, rfl⟩ := okWide_int Try.underlying3 hv1
  obtain ⟨k', e1, w1⟩ := h1.int Try.underlying3
  simp [Value.cells] at e1
  subst e1
  obtain ⟨o, rfl, ho⟩ := line_in hv2 h2
  exact (edits19_any l _ _ k o w hr hl hx ho (wf_int64 w1)).mono fun e w' ⟨he, k⟩ => ⟨he, k.below0⟩

set_option maxRecDepth 100000 in
theorem AuditEdits_lifted (os : Os) (started : os.Started) (H : Type) (enc : TypeId × Value → H) :
    ReturnsInHanded {} Try.checked os 6 .any (Rows.auditEditsSpec.pre6 enc Try.prog Try.f6 Rows.auditEditsRow.domain false) (Rows.auditEditsSpec.post enc Try.prog Try.f6 false true false false) := by
  refine returnsInHanded_of_change_sized (C := Try.checked) (by kernel_rfl) started (by kernel_rfl) Try.func6
    (ChangeSpec.witness6 (enc := enc) (C := Try.checked) false ⟨#[], #[.slice none 0 0, .int .i64 0, .agg #[.int .i64 0, .int .i64 0, .int .i64 0, .string ⟨#[]⟩, .int .i64 0, .int .i64 0, .string ⟨#[]⟩, .string ⟨#[]⟩]], []⟩ 8 (by kernel_rfl) (by kernel_rfl) (by kernel_rfl) (by kernel_rfl)) ?_
  intro W base args ds gs before hval0 hW hcnd hsz0 _
  have hval : ∀ (j : Nat) t v, Try.f6.params[j]? = some t → args[j]? = some v → Value.okWide Try.prog W .any base t v := hval0
  have hsz : (DataW.weightsEach Try.prog (Try.f6.params.toList ++ Rows.auditEditsSpec.plain.varTypes Try.prog) (ds ++ gs)).all (· ≤ reachBytes) = true := hsz0
  have hW' := hW
  obtain ⟨p, q, hA0, hV, rfl, hfz, hnd⟩ := hW
  have hA : DataW.TrodAll enc Try.prog W 0 (fun _ => true) true Try.f6.params.toList args.toList ds p := hA0
  rw [Try.params6] at hA hval hsz
  obtain ⟨v0, vs0, d0, ds0, p0, q0, hargs, rfl, rfl, h0, r0⟩ := trodAll_cons hA
  obtain ⟨v1, vs1, d1, ds1, p1, q1, rfl, rfl, rfl, h1, r1⟩ := trodAll_cons r0
  obtain ⟨v2, vs2, d2, ds2, p2, q2, rfl, rfl, rfl, h2, r2⟩ := trodAll_cons r1
  obtain ⟨rfl, rfl, rfl⟩ := trodAll_nil r2
  obtain rfl : args = #[v0, v1, v2] := by cases args; simp_all
  obtain ⟨rfl, rfl⟩ := trodVars_none hV
  have lt0 : ∀ x ∈ p0, x.block < W.heap.size := by obtain ⟨m, hm⟩ := h0; exact DataW.trod_lt m _ _ _ hm
  have o0 := op_of hsz (j := 0) rfl rfl h0
  have lt1 : ∀ x ∈ p1, x.block < W.heap.size := by obtain ⟨m, hm⟩ := h1; exact DataW.trod_lt m _ _ _ hm
  have o1 := op_of hsz (j := 1) rfl rfl h1
  have lt2 : ∀ x ∈ p2, x.block < W.heap.size := by obtain ⟨m, hm⟩ := h2; exact DataW.trod_lt m _ _ _ hm
  have o2 := op_of hsz (j := 2) rfl rfl h2
  refine (AuditEdits_walk v0 v1 v2 W (hval 0 _ v0 rfl rfl) o0 (hval 1 _ v1 rfl rfl) o1 (hval 2 _ v2 rfl rfl) o2).mono fun e W' ⟨he, bel⟩ => ?_
  subst he
  exact ⟨_, rfl, _, _, _, [], _, [], hW', trodAll_mk1 (shut_bool Try.underlying4 _), (trodAll_cons_mk (Below.trod (by kernel_rfl) (by kernel_rfl) (of_decide_eq_true (by kernel_rfl)) h0 bel lt0) (trodAll_cons_mk (Below.trod (by kernel_rfl) (by kernel_rfl) (of_decide_eq_true (by kernel_rfl)) h1 bel lt1) (trodAll_cons_mk (Below.trod (by kernel_rfl) (by kernel_rfl) (of_decide_eq_true (by kernel_rfl)) h2 bel lt2) trodAll_mk0))), rfl, bel.frame _, fun h => by cases h⟩

/-- The statement. -/
theorem AuditEdits_holds : Rows.AuditEditsSaid :=
  OpenClaim.holds_of_wide 6 Try.f6 rfl rfl rfl rfl rfl rfl rfl ⟨rfl, rfl, rfl, rfl, rfl⟩ rfl rfl rfl rfl rfl (by kernel_rfl) Try.func6 (by kernel_rfl)
    (of_decide_eq_true (by kernel_rfl)) (by unfold Func.isWrapper; rw [if_neg (of_decide_eq_false (by kernel_rfl))]; exact ⟨rfl, rfl⟩)
    (fun os started H enc _ => AuditEdits_lifted os started H enc)
#print axioms AuditEdits_holds
end Go.Proofs.Ytdiacfbflbenoaa
