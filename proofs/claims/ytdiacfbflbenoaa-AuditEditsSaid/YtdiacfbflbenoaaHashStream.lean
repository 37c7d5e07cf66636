/-
  hash.New, Stream.Write: a stream holds what was written. Condition: at most 2^40 bytes in all.
-/
import Derived.Test.YtdiacfbflbenoaaHashBlock
import Derived.Test.YtdiacfbflbenoaaMem5
namespace Go.Proofs.Ytdiacfbflbenoaa
open Go.RowKit
set_option linter.unusedSimpArgs false
set_option linter.unusedVariables false

/-- Block `p` is a stream in which `m` stands, of which `k` blocks were taken; its footprint is `S`. -/
def StG (w : World) (p : Nat) (S : List Nat) (m : List UInt8) (k : Nat) : Prop :=
  ∃ a cap, Blk w p 98 ((comps iv m k).vals ++ [Value.slice a (m.drop (64 * k)).length cap, Value.int .u64 m.length]).toArray ∧ Row w 1 a (m.drop (64 * k)).length cap ((m.drop (64 * k)).map bv) ∧ p ∉ blks a ∧ S = p :: blks a ∧ 64 * k ≤ m.length ∧ m.length ≤ 1099511627776

def St (w : World) (p : Nat) (S : List Nat) (m : List UInt8) : Prop := StG w p S m (m.length / 64)

theorem StG.step {w w' : World} {p : Nat} {S T T' : List Nat} {m : List UInt8} {k : Nat} (h : StG w p S m k) (j : Step T T' w w') (hn : ∀ g, g ∈ S → g ∉ T) : StG w' p S m k := by
  obtain ⟨a, cap, h1, h2, h3, h4, h5⟩ := h
  subst h4
  exact ⟨a, cap, h1.step j (hn p (by simp)), h2.step j (fun g hg => hn g (by simp [hg])), h3, rfl, h5⟩

theorem comps_next (s : S8) (m : List UInt8) (k : Nat) (h : 64 * k ≤ m.length) : comps s m (k + 1) = comp (comps s m k) ((m.drop (64 * k)).take 64) := by
  have := comps_add s (m.take (64 * k)) (m.drop (64 * k)) k (by rw [List.length_take]; omega) 1
  rw [List.take_append_drop] at this
  rw [this]
  have e : comps s m k = comps s (m.take (64 * k)) k := by
    have := comps_app s (m.take (64 * k)) (m.drop (64 * k)) k (by rw [List.length_take]; omega)
    rwa [List.take_append_drop] at this
  rw [e]; rfl


set_option maxHeartbeats 400000 in
theorem new_any (w : World) : Calls Try.prog 48 #[] w fun e w' => ∃ p, e = .returned (.pointer (some ⟨p, 0, none⟩)) ∧ St w' p [p] [] ∧ Step [] [p] w w' := by
  go_enter Try.func48, Try.ntmps48
  go_wp2_with fail
  refine (first_any _).mono ?_
  rintro e w1 ⟨rfl, k1⟩
  have K1 := Lib.hid k1
  clear k1
  go_wp2_with fail
  refine bodyPost_ret (results_tmp rfl _ _ _) rfl ?_
  refine ⟨_, rfl, ⟨none, 0, ?_, Row.none _ _, by simp [blks], by simp [blks], by simp, by simp⟩, ((K1.out.alloc _).wide (by simp) (by simp; exact K1.out.size))⟩
  exact Blk.new _ _ _

set_option maxHeartbeats 400000 in
theorem write_nil (s : List UInt8) (w : World) : Calls Try.prog 49 #[.pointer none, Str s] w fun e w' => e = .returned (.tuple #[]) ∧ w = w' := by
  go_enter Try.func49, Try.ntmps49
  go_wp2
  refine bodyPost_ret (results_none rfl _ _ _) rfl ?_
  exact ⟨rfl, rfl⟩

def StPost (p : Nat) (S : List Nat) (m : List UInt8) (w : World) (e : Ending) (w' : World) : Prop := e = .returned (.tuple #[]) ∧ ∃ S', St w' p S' m ∧ Step S S' w w'

/-- How many bytes are left in the stream in block `p`. -/
def restLen (p : Nat) (w : World) : Nat := match w.cell? ⟨p, 8, none⟩ with
  | some (.slice _ n _) => n
  | _ => 0

theorem StG.open_ {w : World} {p : Nat} {S : List Nat} {m : List UInt8} {k : Nat} (h : StG w p S m k) :
    ∃ a cap R, R = m.drop (64 * k) ∧ w.cell? ⟨p, 8, none⟩ = some (.slice a R.length cap) ∧ w.cell? ⟨p, 9, none⟩ = some (.int .u64 m.length) ∧ Hid (Blk w p 98 ((comps iv m k).vals ++ [Value.slice a R.length cap, Value.int .u64 m.length]).toArray ∧ Row w 1 a R.length cap (R.map bv) ∧ p ∉ blks a ∧ S = p :: blks a) ∧ 64 * k ≤ m.length := by
  obtain ⟨a, cap, h1, h2, h3, h4, h5, h6⟩ := h
  have c8 := h1.cell 8
  have c9 := h1.cell 9
  exact ⟨a, cap, _, rfl, c8, c9, Lib.hid ⟨h1, h2, h3, h4⟩, h5⟩

theorem row_off {w : World} {sz n cap p : Nat} {a : Option Addr} {xs : List Value} (h : Row w sz a n cap xs) (hp : p ∉ blks a) (k : Nat) (u : Value) : Row (w.setCell ⟨p, k, none⟩ u) sz a n cap xs :=
  h.step ((Step.refl [p] w).setCell (p := ⟨p, k, none⟩) (.inl (by simp)) u) (by intro g hg; simp; rintro rfl; exact hp hg)

theorem StG.take {w : World} {p g off cap k : Nat} {m R : List UInt8} (h : Blk w p 98 ((comp (comps iv m k) (R.take 64)).vals ++ [Value.slice (some ⟨g, off, none⟩) R.length cap, Value.int .u64 m.length]).toArray)
    (hr : Row w 1 (some ⟨g, off, none⟩) R.length cap (R.map bv)) (hne : p ≠ g) (hR : R = m.drop (64 * k)) (hl : 64 ≤ R.length) (hm : m.length ≤ 1099511627776) :
    StG (w.setCell ⟨p, 8, none⟩ (.slice (if cap = 64 then some ⟨g, off, none⟩ else some ⟨g, off + 64, none⟩) (R.length - 64) (cap - 64))) p [p, g] m (k + 1) := by
  have hlm : 64 * k + 64 ≤ m.length := by rw [hR, List.length_drop] at hl; omega
  have hd : m.drop (64 * (k + 1)) = R.drop 64 := by rw [hR, List.drop_drop]; rfl
  have hdl : (m.drop (64 * (k + 1))).length = R.length - 64 := by rw [hd, List.length_drop]
  have hb : blks (if cap = 64 then some (⟨g, off, none⟩ : Addr) else some ⟨g, off + 64, none⟩) = [g] := by split <;> rfl
  have hs := hr.sub 64 R.length hl (Nat.le_refl _)
  refine ⟨if cap = 64 then some (⟨g, off, none⟩ : Addr) else some ⟨g, off + 64, none⟩, cap - 64, ?_, ?_, by rw [hb]; simp [hne], by rw [hb], by omega, hm⟩
  · rw [hdl, comps_next iv m k (by omega), ← hR]
    exact h.set 8 _
  · rw [hdl, hd]
    refine row_off ?_ (by rw [hb]; simp [hne]) 8 _
    have e1 : ((R.map bv).drop (64 * 1)).take ((R.length - 64) * 1) = (R.drop 64).map bv := by
      rw [Nat.mul_one, Nat.mul_one, List.map_drop, List.take_of_length_le (by simp)]
    have e2 : (if cap = 64 then some (⟨g, off, none⟩ : Addr) else (some (⟨g, off, none⟩ : Addr)).map (·.add (64 * 1))) = (if cap = 64 then some (⟨g, off, none⟩ : Addr) else some ⟨g, off + 64, none⟩) := by
      simp [addr_add]
    rw [e1, e2] at hs
    exact hs

set_option maxRecDepth 10000 in
set_option maxHeartbeats 2000000 in
theorem write_any (p : Nat) (S : List Nat) (m s : List UInt8) (w : World) (h : St w p S m) (hl : m.length + s.length ≤ 1099511627776) :
    Calls Try.prog 49 #[.pointer (some ⟨p, 0, none⟩), Str s] w (StPost p S (m ++ s) w) := by
  obtain ⟨a, cap, R, hR, c8, c9, H, h5⟩ := StG.open_ h
  clear h
  have f9 := H.out.1.frozen 9
  have HR := Lib.hid hR
  have hlR : R.length ≤ 64 := by rw [hR, List.length_drop]; omega
  clear hR
  have z1 : IntKind.u64.wrap ((m.length : Int) + (s.length : Int)) = (m.length : Int) + (s.length : Int) := IntWalk.u64_in _ (by omega)
  obtain ⟨i0, hi, hz0, hz1, hz2⟩ := info_parts Try.info_bytes
  have HI := Lib.hid (And.intro hi (And.intro hz0 (And.intro hz1 hz2)))
  clear hi hz0 hz1 hz2
  obtain ⟨W, hW⟩ : ∃ W, W = w.setCell ⟨p, 9, none⟩ (.int .u64 ((m.length : Int) + (s.length : Int))) := ⟨_, rfl⟩
  have HW := Lib.hid hW
  have hb1 : Blk W p 98 ((comps iv m (m.length / 64)).vals ++ [Value.slice a R.length cap, Value.int .u64 ((m.length : Int) + (s.length : Int))]).toArray := by
    rw [hW]; exact H.out.1.set 9 _
  have hs1 : Step [p] [p] w W := by rw [hW]; exact (Step.refl [p] w).setCell (.inl (by simp)) _
  have hr1 : Row W 1 a R.length cap (R.map bv) := H.out.2.1.step hs1 (by intro g hg; simp; rintro rfl; exact H.out.2.2.1 hg)
  have c8' := hb1.cell 8
  have H1 := Lib.hid (And.intro hb1 (And.intro hs1 hr1))
  clear hW hb1 hs1 hr1
  go_enter Try.func49, Try.ntmps49
  go_upto_block 0 with (rw [← HW.out]; at_builtin; refine wpList_append_row rfl (.tmp 20) (.tmp 21) 26 9 rfl 5 i0 _ 1 1 Try.underlying26 HI.out.1 HI.out.2.1 HI.out.2.2.1 HI.out.2.2.2 rfl rfl H1.out.2.2 rfl (Src.str W 9 Try.underlying9 s) (by unfold maxLen; omega) (by omega) (by omega) ?_; intro a' cap' w' hr hst; have hk := hst.cell c8' (H.out.2.2.1); have hkf := (H1.out.1.step hst H.out.2.2.1).frozen 8)
  have hpa : p ∉ blks a' := fun hm => by
    rcases hst.fresh p hm with h | h
    · exact H.out.2.2.1 h
    · have := H1.out.1.lt; omega
  have R0 : Hid (∃ S', StG (w'.setCell ⟨p, 8, none⟩ (.slice a' (R.length + s.length) cap')) p S' (m ++ s) (m.length / 64) ∧ Step S S' w (w'.setCell ⟨p, 8, none⟩ (.slice a' (R.length + s.length) cap'))) := by
    refine Lib.hid ⟨p :: blks a', ⟨a', cap', ?_, ?_, ?_, rfl, by simp; omega, by simp; omega⟩, ?_⟩
    · have hd : ((m ++ s).drop (64 * (m.length / 64))).length = R.length + s.length := by rw [HR.out, List.length_drop, List.length_append, List.length_drop]; omega
      rw [hd, comps_app iv m s _ h5]
      have := (H1.out.1.step hst H.out.2.2.1).set 8 (Value.slice a' (R.length + s.length) cap')
      rw [List.length_append, Int.natCast_add]
      exact this
    · rw [List.drop_append_of_le_length h5, ← HR.out, List.length_append, List.map_append]
      exact row_off hr hpa 8 _
    · exact hpa
    · rw [H.out.2.2.2]
      refine Step.setCell ?_ (.inl (by simp)) _
      exact (H1.out.2.1.wide (by simp) (by intro k hk; exact .inl hk)).trans (S' := p :: blks a) (hst.wide (by simp; intro k hk; exact .inr hk) (by intro k hk; simp at hk ⊢; rcases hk with rfl | hk; exact .inl (.inl rfl); exact .inr (.inl hk)))
  go_wp2_with fail
  go_loopw [] (fun wr => ∃ S' k, Hid (StG wr p S' (m ++ s) k ∧ Step S S' w wr))
    (fun wr => restLen p wr)
  case atStart => 
    obtain ⟨S', h1, h2⟩ := R0.out
    exact ⟨S', _, h1, h2⟩
  case round =>
    clear R0 hkf c8 hk c8' c9 f9
    clear HW H1 hr hst HR
    obtain ⟨S', k, HK⟩ := hrel
    obtain ⟨a, cap, R, hR, c8, c9, H, h5⟩ := StG.open_ HK.out.1
    have HR := Lib.hid hR
    clear hR
    by_cases hlt : 64 ≤ R.length
    · have hlt' : (64 : Int) ≤ R.length := by omega
      have f8 := H.out.1.frozen 8
      obtain ⟨g, off, rfl⟩ := H.out.2.1.some_of_pos (by omega)
      have hc1 := H.out.2.1.le
      have hc2 : 64 ≤ cap := by omega
      have hc3 : (64 : Int) ≤ cap := by omega
      go_wp2_with fail
      refine still_tail 8 (by kernel_rfl) (by kernel_rfl) ?_
      simp only [List.take_succ_cons, List.take_zero, List.drop_succ_cons, List.drop_zero]
      repeat still_step
      refine wpStill_nil ?_
      go_wp2_with fail
      have hrd : Rd wr.drew 1 (some ⟨g, off, none⟩) 64 ((R.take 64).map bv) := by
        have := (H.out.2.1.rd.take 64 hlt).drew
        rwa [Nat.mul_one, ← List.map_take] at this
      refine (block_any p 98 (comps iv (m ++ s) k) [Value.slice (some ⟨g, off, none⟩) R.length cap, Value.int .u64 (m ++ s).length] g off cap (R.take 64) wr.drew (by simp; omega) H.out.1.drew hrd).mono ?_
      rintro e w2 ⟨rfl, h8, s8⟩
      have e8 : w2.cell? ⟨p, 8, none⟩ = some (.slice (some ⟨g, off, none⟩) R.length cap) := h8.cell 8
      have g8 := h8.frozen 8
      have H8 := Lib.hid (And.intro h8 s8)
      clear h8 s8 hrd c8 f8
      go_wp2_with fail
      go_roundw
      case rel =>
        have hpg : p ≠ g := by have := H.out.2.2.1; simpa [blks] using this
        have hr2 : Row w2 1 (some ⟨g, off, none⟩) R.length cap (R.map bv) := H.out.2.1.drew.step H8.out.2 (by simp [blks]; exact hpg.symm)
        refine ⟨[p, g], k + 1, StG.take H8.out.1 hr2 hpg HR.out hlt (by simp; omega), ?_⟩
        have hS := H.out.2.2.2
        simp only [blks] at hS
        have h1 := HK.out.2
        rw [hS] at h1
        exact (h1.drew.trans (H8.out.2.wide (by simp) (by intro k hk; exact .inl hk))).setCell (.inl (by simp)) _
      case measure =>
        have h1 : restLen p wr = R.length := by
          have := H.out.1.cell 8
          unfold restLen
          rw [this]; rfl
        rw [h1]
        have h2 := (H8.out.1.set 8 (Value.slice (if cap = 64 then some ⟨g, off, none⟩ else some ⟨g, off + 64, none⟩) (R.length - 64) (cap - 64))).cell 8
        unfold restLen
        rw [h2]
        show R.length - 64 < R.length
        omega
    · have hlt' : ¬ (64 : Int) ≤ R.length := by omega
      go_wp2_with fail
      refine bodyPost_end (results_none rfl _ _ _) rfl ?_
      have hk : k = (m ++ s).length / 64 := by rw [HR.out, List.length_drop] at hlt; omega
      refine ⟨rfl, S', ?_, HK.out.2⟩
      have := HK.out.1
      rw [hk] at this
      exact this
end Go.Proofs.Ytdiacfbflbenoaa
