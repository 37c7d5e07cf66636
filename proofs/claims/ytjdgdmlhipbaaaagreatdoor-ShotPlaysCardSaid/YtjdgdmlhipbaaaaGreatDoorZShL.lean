/-
 shot.Load.
-/
import Derived.Test.YtjdgdmlhipbaaaaGreatDoorZGK
import Derived.Test.YtjdgdmlhipbaaaaGreatDoorZShS
namespace Go.Proofs.YtjdgdmlhipbaaaaGreatDoor
open Go.RowKit Go.Maps
set_option linter.unusedSimpArgs false
set_option linter.unusedVariables false
set_option maxRecDepth 100000

def loadStep (s : St) (a : Sn × Bool) (f : List UInt8) : Sn × Bool := if namedB f = true ∧ (rdS s f).2 = true ∧ (a.2 = false ∨ a.1.i < (rdS s f).1.i) then ((rdS s f).1, true) else a
def loadS (s : St) : Sn × Bool := (namesS s).foldl (loadStep s) (sn0, false)
def loadR (s : St) : Sn × Bool × Int := if s.off then (sn0, false, 7) else ((loadS s).1, (loadS s).2, 0)
theorem res_row3 {P : Program} {fn : Func} {p u v : Tmp} {T T' : TypeId} {cs : Array Value} {w : World} {b : Nat} (h : fn.results = #[.cell p T, .tmp u, .tmp v]) (tmps : Array Value) (hp : tmps.getD p undef = .pointer (some ⟨b, 0, none⟩)) (hT : StructOf P T cs.size) (hb : Blk w b T' cs) :
  (results fn tmps).run P w = .ok (.tuple #[.agg cs, tmps.getD u undef, tmps.getD v undef]) w := by
 obtain ⟨fs, hf⟩ := hT.2
 have := run_loadVar_row (P := P) w b T' T cs (0, 0) (.struct fs) hb hf rfl hT.1
 simp only [Array.getD_eq_getD_getElem?] at hp
 simp only [results, h]
 simp [Sem.run_bind, Result.andThen, hp, asAddr, this]
theorem dkdown_any (w : World) (S : List Nat) (d : Nat) (s : St) (h : Dk w S d s) : Calls Tryz.prog 40 #[.pointer (some ⟨d, 0, none⟩)] w fun e w' => e = .returned (.bool s.off) ∧ w = w' := by
 obtain ⟨m, L, h1, _⟩ := h
 exact down_any w d m s.room s.fuse s.off h1.blk
theorem names_short {s : St} {k : Nat} (h : Ok6 s k) : ∀ f ∈ namesS s, f.length ≤ 1099511627776 := by
 intro f hf
 unfold namesS at hf
 split at hf
 ·cases hf
 ·obtain ⟨x, hx, rfl⟩ := List.mem_map.1 hf
  exact h.nm x hx
theorem names_count {s : St} {k : Nat} (h : Ok6 s k) : (namesS s).length ≤ 1099511627776 := by
 unfold namesS
 split
 ·simp
 ·rw [List.length_map]; exact h.b.len
structure LoH (w wr : World) (S : List Nat) (d rb ob : Nat) (s : St) (a : Option Addr) (l : List (List UInt8)) (x : Sn) : Prop where
 res : Blk wr rb 33 (snc sn0).toArray
 out : Blk wr ob 33 (snc x).toArray
 dk : Dk wr S d s
 nm : Rd wr 1 a l.length (l.map encStr)
 ne : rb ≠ ob
 no : ob ∉ S
 na : ∀ g, g ∈ blks a → g ≠ ob
 st : Step [] [rb, ob] w wr
theorem LoH.quiet {w wr w' : World} {S : List Nat} {d rb ob : Nat} {s : St} {a : Option Addr} {l : List (List UInt8)} {x : Sn} (h : LoH w wr S d rb ob s a l x) {T : List Nat} (k : Step [] T wr w') : LoH w w' S d rb ob s a l x :=
 ⟨h.res.step k (by simp), h.out.step k (by simp), h.dk.keep k, h.nm.step0 k, h.ne, h.no, h.na, h.st.trans ((k.drop (S'' := []) (by simp)).keep _)⟩
theorem LoH.set {w wr w' : World} {S : List Nat} {d rb ob : Nat} {s : St} {a : Option Addr} {l : List (List UInt8)} {x y : Sn} (h : LoH w wr S d rb ob s a l x) (hb : Blk w' ob 33 (snc y).toArray) (k : Step [ob] [ob] wr w') : LoH w w' S d rb ob s a l y :=
 ⟨h.res.step k (by simpa using h.ne), hb, h.dk.step k (fun g hg hm => by simp at hm; subst hm; exact h.no hg), h.nm.step k (fun g hg hm => by simp at hm; exact h.na g hg hm), h.ne, h.no, h.na, h.st.trans (k.frame [rb])⟩
set_option maxHeartbeats 4000000 in
theorem load_any (w : World) (S : List Nat) (d : Nat) (s : St) (h : Dk w S d s) (k : Nat) (hO : Ok6 s k) (hT : PTab w) :
  Calls Tryz.prog 20 #[.pointer (some ⟨d, 0, none⟩)] w fun e w' => e = .returned (.tuple #[snV (loadR s).1, .bool (loadR s).2.1, .int .i64 (loadR s).2.2]) ∧ Step [] [] w w' := by
 have HX := Lib.hid (And.intro h (And.intro hO hT))
 clear h hO hT
 go_enter Tryz.func20, Tryz.ntmps20
 go_upto_region 2 with fail
 obtain ⟨rb, hrb⟩ : ∃ rb, rb = w.heap.size := ⟨_, rfl⟩
 obtain ⟨ob, hob⟩ : ∃ ob, ob = rb + 1 := ⟨_, rfl⟩
 obtain ⟨V, hV⟩ : ∃ V, V = (w.alloc (.cells (snc sn0).toArray 33)).alloc (.cells (snc sn0).toArray 33) := ⟨_, rfl⟩
 have H0 : Hid (LoH w V S d rb ob s none [] sn0 ∧ ob < V.heap.size) := by
  have h1 : (w.alloc (.cells (snc sn0).toArray 33)).heap.size = w.heap.size + 1 := by simp
  have b1 := (Blk.new (w.alloc (.cells (snc sn0).toArray 33)) 33 (snc sn0).toArray)
  have k1 := ((Step.refl [] w).hold (.cells (snc sn0).toArray 33)).hold (.cells (snc sn0).toArray 33)
  rw [h1] at b1 k1
  subst hV hob hrb
  refine ⟨⟨(Blk.new w _ _).alloc _, b1, HX.out.1.keep k1, Row.rd (Row.none _ _), by omega, fun hm => ?_, by simp [blks], k1.drop (by simp)⟩, b1.lt⟩
  have := HX.out.1.lt _ hm
  omega
 change Code.wp _ _ _ _ ((w.alloc (.cells (snc sn0).toArray 33)).alloc (.cells (snc sn0).toArray 33))
 rw [← hV]
 rw [← hrb, ← hob]
 clear hV hrb hob
 go_wp2_with fail
 refine (dkdown_any V S d s H0.out.1.dk).mono ?_
 rintro e w1 ⟨rfl, rfl⟩
 have hoff : (namesS s = if s.off then [] else s.E.map En.n) := rfl
 cases ho : s.off with
 | true =>
  have HN : Hid (loadR s = (sn0, false, 7)) := Lib.hid (by rw [loadR, ho]; rfl)
  clear ho hoff
  have cc := H0.out.1.out.cell
  have cx0 := cc 0
  have cx1 := cc 1
  have cx2 := cc 2
  clear cc
  simp only [snc, List.getElem?_toArray, List.getElem?_cons_zero, List.getElem?_cons_succ] at cx0 cx1 cx2
  go_wp2_with (refine wpList_storeRow (T := 33) (b := rb) (T' := 33) (cs := (snc sn0).toArray) (vs := (snc sn0).toArray) rfl (.tmp 2) (.tmp 13) rfl rfl rfl Tryz.sSnap H0.out.1.res rfl (snc_one sn0) ?_; intro U ub uk)
  exact bodyPost_ret (res_row3 rfl _ rfl Tryz.sSnap ub) rfl ⟨by rw [HN.out]; rfl, (H0.out.1.st.trans (uk.frameR [ob])).drop (by simp)⟩
 | false =>
  have HN : Hid (loadR s = ((loadS s).1, (loadS s).2, 0)) := Lib.hid (by rw [loadR, ho]; rfl)
  clear ho hoff
  go_wp2_with fail
  refine (names_any V S d s H0.out.1.dk HX.out.2.1.b).mono ?_
  rintro e w2 ⟨a, cap, rfl, hrow, hst⟩
  have H2 : Hid (LoH w w2 S d rb ob s a (namesS s) sn0) := Lib.hid ⟨H0.out.1.res.step hst (by simp), H0.out.1.out.step hst (by simp), H0.out.1.dk.keep hst, hrow.rd, H0.out.1.ne, H0.out.1.no, fun g hg e => by
   rcases hst.fresh g hg with h1 | h1
   ·cases h1
   ·have := H0.out.2; omega, H0.out.1.st.trans ((hst.drop (S'' := []) (by simp)).keep _)⟩
  clear hrow hst H0
  obtain ⟨l, hl⟩ : ∃ l, l = namesS s := ⟨_, rfl⟩
  have hln := names_count HX.out.2.1
  rw [← hl] at H2 hln
  rw [← hl]
  have HL : Hid (loadS s = l.foldl (loadStep s) (sn0, false) ∧ ∀ f ∈ l, f.length ≤ 1099511627776) := Lib.hid ⟨by rw [hl]; rfl, by rw [hl]; exact names_short HX.out.2.1⟩
  clear hl
  go_wp2_with fail
  go_loopw [6, 17] (fun th i wr => ∃ (j : Nat) (y : Sn) (t : Bool), j ≤ l.length ∧ i = .int .i64 j ∧ th = .bool t ∧ Hid (LoH w wr S d rb ob s a l y ∧ (l.take j).foldl (loadStep s) (sn0, false) = (y, t)))
   (fun _ i _ => l.length - (intOf i).toNat)
  case atStart => exact ⟨0, sn0, false, by omega, rfl, rfl, H2.out, rfl⟩
  case round =>
   obtain ⟨j, y, t, hj, rfl, rfl, HW⟩ := hrel
   by_cases hlt : j < l.length
   ·have hlt' : (j : Int) < l.length := by omega
    obtain ⟨f, hf⟩ : ∃ f, l[j]? = some f := ⟨_, List.getElem?_eq_getElem hlt⟩
    obtain ⟨g, off, hsa⟩ := HW.out.1.nm.some_ (by omega)
    subst hsa
    have cn : wr.cell? ⟨g, off + j, none⟩ = some (Str f) := HW.out.1.nm.cell g off none rfl j _ (by simp [hf])
    have HF : Hid (f.length ≤ 1099511627776 ∧ (l.take (j + 1)).foldl (loadStep s) (sn0, false) = loadStep s (y, t) f) := Lib.hid ⟨HL.out.2 f (List.mem_of_getElem? hf), by rw [List.take_add_one, hf, List.foldl_append, HW.out.2]; rfl⟩
    clear hf
    go_wp2_with fail
    refine (named_any f wr).mono ?_
    rintro e w3 ⟨rfl, k3⟩
    have H3 := Lib.hid (HW.out.1.quiet k3)
    have HTB : Hid (PTab w3) := Lib.hid (HX.out.2.2.step H3.out.st)
    clear k3 HW cn
    cases hnm : namedB f with
    | false =>
     have HQ : Hid (loadStep s (y, t) f = (y, t)) := Lib.hid (by unfold loadStep; rw [hnm, if_neg (by simp)])
     clear hnm
     go_wp2_with fail
     go_roundw
     case rel => exact ⟨j + 1, y, t, by omega, by go_num, rfl, H3.out, by rw [HF.out.2, HQ.out]⟩
     case measure => simp [intOf]; omega
    | true =>
     have HNM := Lib.hid hnm
     clear hnm
     go_wp2_with fail
     refine (sread_any f w3 S d s H3.out.dk HX.out.2.1.b HF.out.1 HTB.out).mono ?_
     rintro e w4 ⟨rfl, k4⟩
     have H4 := Lib.hid (H3.out.quiet k4)
     clear k4 H3 HTB
     obtain ⟨x, hx⟩ : ∃ x, x = (rdS s f).1 := ⟨_, rfl⟩
     obtain ⟨ok, hok⟩ : ∃ ok, ok = (rdS s f).2 := ⟨_, rfl⟩
     rw [← hx, ← hok]
     have HY : Hid (loadStep s (y, t) f = if ok = true ∧ (t = false ∨ y.i < x.i) then (x, true) else (y, t)) := Lib.hid (by unfold loadStep; rw [HNM.out, ← hx, ← hok]; simp)
     clear hx hok
     go_upto_region 10 with fail
     obtain ⟨nb, hnb⟩ : ∃ nb, nb = w4.heap.size := ⟨_, rfl⟩
     obtain ⟨V5, hV5⟩ : ∃ V5, V5 = w4.alloc (.cells (snc x).toArray 33) := ⟨_, rfl⟩
     have H5 : Hid (LoH w V5 S d rb ob s (some ⟨g, off, none⟩) l y ∧ Blk V5 nb 33 (snc x).toArray) := by
      subst hV5 hnb
      exact ⟨H4.out.quiet ((Step.refl [] w4).alloc _), Blk.new w4 _ _⟩
     change Code.wp _ _ _ _ (w4.alloc (.cells (snc x).toArray 33))
     rw [← hV5, ← hnb]
     clear hV5 hnb H4
     have cc := H5.out.2.cell
     have cx0 := cc 0
     have cx1 := cc 1
     have cx2 := cc 2
     clear cc
     have cc := H5.out.1.out.cell
     have cy0 := cc 0
     clear cc
     simp only [snc, List.getElem?_toArray, List.getElem?_cons_zero, List.getElem?_cons_succ] at cx0 cx1 cx2 cy0
     cases ok with
     | false =>
      go_wp2_with fail
      go_roundw
      case rel => exact ⟨j + 1, y, t, by omega, by go_num, rfl, H5.out.1, by rw [HF.out.2, HY.out, if_neg (by simp)]⟩
      case measure => simp [intOf]; omega
     | true =>
      cases t with
      | false =>
       go_wp2_with (refine wpList_storeRow (T := 33) (b := ob) (T' := 33) (cs := (snc y).toArray) (vs := (snc x).toArray) rfl (.tmp 5) (.tmp 42) rfl rfl rfl Tryz.sSnap H5.out.1.out rfl (snc_one x) ?_; intro U ub uk)
       go_roundw
       case rel => exact ⟨j + 1, x, true, by omega, by go_num, rfl, H5.out.1.set ub uk, by rw [HF.out.2, HY.out, if_pos (by simp)]⟩
       case measure => simp [intOf]; omega
      | true =>
       by_cases hi : y.i < x.i
       ·have hd : decide (y.i < x.i) = true := decide_eq_true hi
        go_wp2_with (refine wpList_storeRow (T := 33) (b := ob) (T' := 33) (cs := (snc y).toArray) (vs := (snc x).toArray) rfl (.tmp 5) (.tmp 42) rfl rfl rfl Tryz.sSnap H5.out.1.out rfl (snc_one x) ?_; intro U ub uk)
        go_roundw
        case rel => exact ⟨j + 1, x, true, by omega, by go_num, rfl, H5.out.1.set ub uk, by rw [HF.out.2, HY.out, if_pos ⟨rfl, .inr hi⟩]⟩
        case measure => simp [intOf]; omega
       ·have hd : decide (y.i < x.i) = false := decide_eq_false hi
        go_wp2_with fail
        go_roundw
        case rel => exact ⟨j + 1, y, true, by omega, by go_num, rfl, H5.out.1, by rw [HF.out.2, HY.out, if_neg (by simp [hi])]⟩
        case measure => simp [intOf]; omega
   ·have hlt' : ¬ (j : Int) < l.length := by omega
    have HE : Hid (loadS s = (y, t)) := Lib.hid (by rw [HL.out.1, ← HW.out.2, List.take_of_length_le (by omega)])
    have cc := HW.out.1.out.cell
    have cy0 := cc 0
    have cy1 := cc 1
    have cy2 := cc 2
    clear cc
    simp only [snc, List.getElem?_toArray, List.getElem?_cons_zero, List.getElem?_cons_succ] at cy0 cy1 cy2
    go_wp2_with (refine wpList_storeRow (T := 33) (b := rb) (T' := 33) (cs := (snc sn0).toArray) (vs := (snc y).toArray) rfl (.tmp 2) (.tmp 44) rfl rfl rfl Tryz.sSnap HW.out.1.res rfl (snc_one y) ?_; intro U ub uk)
    exact bodyPost_ret (res_row3 rfl _ rfl Tryz.sSnap ub) rfl ⟨by rw [HN.out, HE.out]; rfl, (HW.out.1.st.trans (uk.frameR [ob])).drop (by simp)⟩
end Go.Proofs.YtjdgdmlhipbaaaaGreatDoor
