/-
  Plain laws of a client: what Ask, Tick and Hear leave; the reference reads the same answers. No program in sight but Open.
-/
import Derived.Test.YtjfaplmojpldhaaZCliOp
import Derived.Test.YtjfaplmojpldhaaZAnsRead
namespace Go.Proofs.Ytjfaplmojpldhaa
open Go.RowKit
set_option linter.unusedSimpArgs false
set_option linter.unusedVariables false
set_option maxRecDepth 100000

theorem refQ_yes {s : List UInt8} {x : An} (hs : s.length ≤ 2097152) (h : decA s = some x) : readA stopR mostN ⟨s, false⟩ = (x, ⟨[], false⟩) ∧ refAB x = (s, 0) ∧ rend (⟨[], false⟩ : RS) = 0 ∧ SmA x := by
  obtain ⟨g3, g4⟩ := decA_some h
  have e := encA_right g3
  rw [← g4] at e
  have hb := readA_back (stop := stopR) stopR_ne (m := mostN) (by simp [mostN]) x [] g3
  rw [List.append_nil, ← g4] at hb
  have sm := readA_small mostN s hs
  rw [hb] at sm
  exact ⟨hb, by rw [refAB_enc x sm.ln]; exact e, rfl, sm⟩
theorem refQ_no {s : List UInt8} (hs : s.length ≤ 2097152) (h : decA s = none) : ¬ (rend (readA stopR mostN ⟨s, false⟩).2 = 0 ∧ refAB (readA stopR mostN ⟨s, false⟩).1 = (s, 0)) := by
  rintro ⟨h1, h2⟩
  rw [refAB_enc _ (readA_small mostN s hs).ln] at h2
  obtain ⟨r1, r2⟩ := encA_some h2
  have := decA_right r1
  rw [← r2, h] at this
  cases this
theorem reqB_posQ (x : Cm) : 0 < (reqB x).length := by
  rw [reqB, reqIts, itsB_cons, List.length_append, nI_B]
  have : 0 < (numB x.kind.toNat).length := by simp [numB]
  omega
theorem ask_cases {k : Ct} (x : Cm) (h : k.op = []) : (∃ es : List UInt8, es ≠ [] ∧ askC k x = ({k with seq := k.seq + 1, op := es, waited := 0}, (es, 0))) ∨ (∃ e : Int, e ≠ 0 ∧ askC k x = (k, ([], e))) := by
  unfold askC
  rw [if_neg (by simp [h])]
  split
  · exact .inr ⟨1, by omega, rfl⟩
  · split
    · exact .inr ⟨1, by omega, rfl⟩
    · split
      · rename_i h0
        obtain ⟨⟨es, e⟩, hs⟩ : ∃ p, p = encC (cleanC (askX k x)) := ⟨_, rfl⟩
        rw [← hs] at h0 ⊢
        simp only at h0
        subst h0
        refine .inl ⟨es, fun hn => ?_, rfl⟩
        have := (encC_some _ _ hs.symm).2
        rw [hn] at this
        have hp := reqB_posQ (cleanC (askX k x))
        rw [← this] at hp
        simp at hp
      · rename_i h0
        exact .inr ⟨_, h0, rfl⟩
theorem ask_busy {k : Ct} (x : Cm) (h : ¬ k.op = []) : askC k x = (k, ([], 21)) := if_pos h
theorem askX_b {k : Ct} {x : Cm} (hk : CtB k) (hx : CmB x) : CmB (askX k x) := by
  obtain ⟨h1, h2, h3, h4, h5, h6, h7, h8, h9, h10, h11, h12, h13, h14, h15⟩ := hx
  refine ⟨?_, ?_, h3, h4, h5, ?_, h7, h8, h9, h10, h11, h12, h13, h14, h15⟩
  · have := hk.id; simp only [askX]; omega
  · have := hk.seq; simp only [askX]; omega
  · have := hk.tok
    simp only [askX]
    split
    · simp
    · omega
/-- What stands whatever is told. -/
structure Same3 (k k' : Ct) : Prop where
  id : k'.id = k.id
  size : k'.size = k.size
  pat : k'.pat = k.pat
  seq : k'.seq = k.seq
theorem tick_keep (k : Ct) : Same3 k (tickC k).1 ∧ (tickC k).1.op = k.op ∧ (tickC k).1.ans = k.ans := by
  unfold tickC
  repeat' split
  all_goals exact ⟨⟨rfl, rfl, rfl, rfl⟩, rfl, rfl⟩
theorem hear_keep (k : Ct) (t : List UInt8) : Same3 k (hearC k t).1 := by
  unfold hearC
  repeat' split
  · exact ⟨rfl, rfl, rfl, rfl⟩
  · simp only [hearN]
    split <;> exact ⟨rfl, rfl, rfl, rfl⟩
  all_goals exact ⟨rfl, rfl, rfl, rfl⟩
theorem hear_cases (k : Ct) (t : List UInt8) : (∃ x, ¬ k.op = [] ∧ decA t = some x ∧ x.client = k.id ∧ x.seq = k.seq ∧ hearC k t = (hearA k x, true)) ∨ ((hearC k t).2 = false ∧ (hearC k t).1.op = k.op) := by
  unfold hearC
  split
  · exact .inr ⟨rfl, rfl⟩
  · rename_i h0
    split
    · refine .inr ⟨rfl, ?_⟩
      simp only [hearN]
      split <;> rfl
    · split
      · rename_i x hx
        split
        · rename_i hc
          exact .inl ⟨x, h0, hx, hc.1, hc.2, rfl⟩
        · exact .inr ⟨rfl, rfl⟩
      · exact .inr ⟨rfl, rfl⟩
theorem hear_shut {k : Ct} (t : List UInt8) (h : k.op = []) : hearC k t = (k, false) := if_pos h
theorem ask_keep (k : Ct) (x : Cm) : (askC k x).1.id = k.id ∧ (askC k x).1.ans = k.ans ∧ (askC k x).1.size = k.size ∧ (askC k x).1.pat = k.pat := by
  unfold askC
  repeat' split
  all_goals exact ⟨rfl, rfl, rfl, rfl⟩
set_option maxHeartbeats 2000000 in
theorem openC_any (k : Ct) (s : Value) (b : Nat) (w : World) (h : Blk w b 95 (ctc k s).toArray) : Calls Try.prog 21 #[.pointer (some ⟨b, 0, none⟩)] w fun e w' => e = .returned (.tuple #[Str k.op, .bool (!k.op.isEmpty)]) ∧ Step [] [] w w' := by
  have fc := h.cell
  have f4 := fc 4
  clear fc
  simp only [ctc, List.getElem?_toArray, List.getElem?_cons_zero, List.getElem?_cons_succ] at f4
  have fl := h.lt
  have HS := Lib.hid (Step.refl [] w)
  clear h
  go_enter Try.func21, Try.ntmps21
  go_wp2_with fail
  go_quiet (fail)
  go_wp2_with fail
  refine bodyPost_ret (results_tmp2 rfl _ _ _) rfl ⟨?_, HS.out.drewN _⟩
  rfl
end Go.Proofs.Ytjfaplmojpldhaa
