/-
  msg.Of: the message of a flat form. Condition: at most 2^40 entries.
-/
import Derived.Test.YtihklmomipidaaaMsgA
namespace Go.Proofs.Ytihklmomipidaaa
open Go.RowKit
set_option linter.unusedSimpArgs false
set_option linter.unusedVariables false
set_option maxRecDepth 100000

/-- A clean flat form's message, its entries at a slice. -/
def msgV (x : Rw) (s : Value) : Value :=
  if x.kind = 1 then .iface 57 (.agg #[.int .i64 x.src, .int .i64 x.term, .int .i64 x.index, .int .i64 x.last]) else if x.kind = 2 then .iface 55 (.agg #[.int .i64 x.src, .int .i64 x.term, .bool x.yes]) else if x.kind = 3 then .iface 47 (.agg #[.int .i64 x.src, .int .i64 x.term, .int .i64 x.index, .int .i64 x.last, .int .i64 x.commit, .int .i64 x.round, s]) else if x.kind = 4 then .iface 62 (.agg #[.int .i64 x.src, .int .i64 x.term, .int .i64 x.index, .int .i64 x.round, .bool x.yes]) else .iface 51 (.agg #[.int .i64 x.src, .int .i64 x.term, .int .i64 x.index, .int .i64 x.last, .int .i64 x.round, Str x.data])
structure IsMsg (w : World) (x : Rw) (v : Value) : Prop where
  kind : isKind x.kind = true
  clean : cleanL x = x
  at_ : ∃ a cap, v = msgV x (.slice a x.es.length cap) ∧ Rd w 3 a x.es.length (entcs x.es)
  len : x.es.length ≤ 4398046511104
theorem IsMsg.step {w w' : World} {x : Rw} {v : Value} (h : IsMsg w x v) (k : Step [] [] w w') : IsMsg w' x v := by
  obtain ⟨a, cap, h1, h2⟩ := h.at_
  exact ⟨h.kind, h.clean, ⟨a, cap, h1, h2.step0 k⟩, h.len⟩
def OfPost (x : Rw) (w : World) (e : Ending) (w' : World) : Prop := ∃ m, e = .returned (.tuple #[m, .bool true]) ∧ IsMsg w' (cleanL x) m ∧ Step [] [] w w'
theorem clean_clean (x : Rw) (h : isKind x.kind = true) : cleanL (cleanL x) = cleanL x ∧ (cleanL x).kind = x.kind := by
  rcases kind_cases h with h | h | h | h | h <;> simp [cleanL, h]
theorem clean_len (x : Rw) : (cleanL x).es.length ≤ x.es.length := by
  unfold cleanL
  repeat' split
  all_goals simp [rwZ]
theorem of_none (x : Rw) (a : Option Addr) (cap : Nat) (w : World) (hk : isKind x.kind = false) : Calls Try.prog 9 #[rwV x (.slice a x.es.length cap)] w fun e w' => e = .returned (.tuple #[.nilIface, .bool false]) ∧ Step [] [] w w' := by
  have h1 : (x.kind == 1) = false := by simp [isKind] at hk ⊢; omega
  have h2 : (x.kind == 2) = false := by simp [isKind] at hk ⊢; omega
  have h3 : (x.kind == 3) = false := by simp [isKind] at hk ⊢; omega
  have h4 : (x.kind == 4) = false := by simp [isKind] at hk ⊢; omega
  have h5 : (x.kind == 5) = false := by simp [isKind] at hk ⊢; omega
  clear hk
  go_enter Try.func9, Try.ntmps9
  go_wp2_with fail
  exact bodyPost_ret (results_tmp2 rfl _ _ _) rfl ⟨rfl, (Step.refl [] w).alloc _⟩

set_option maxHeartbeats 1000000 in
theorem of1_any (x : Rw) (a : Option Addr) (cap : Nat) (w : World) (hk : x.kind = 1) : Calls Try.prog 9 #[rwV x (.slice a x.es.length cap)] w (OfPost x w) := by
  have hik : isKind x.kind = true := by rw [hk]; rfl
  have HV := Lib.hid (show msgV (cleanL x) (.slice none (cleanL x).es.length 0) = .iface 57 (.agg #[.int .i64 x.src, .int .i64 x.term, .int .i64 x.index, .int .i64 x.last]) by simp [msgV, cleanL, hk])
  have HE := Lib.hid (show (cleanL x).es = [] by simp [cleanL, hk])
  have HC := Lib.hid (clean_clean x hik)
  have h1 : (x.kind == 1) = true := by rw [hk]; rfl
  have h2 : (x.kind == 2) = false := by rw [hk]; rfl
  have h3 : (x.kind == 3) = false := by rw [hk]; rfl
  have h4 : (x.kind == 4) = false := by rw [hk]; rfl
  have h5 : (x.kind == 5) = false := by rw [hk]; rfl
  have HIK := Lib.hid hik
  clear hk hik
  go_enter Try.func9, Try.ntmps9
  go_wp2_with fail
  refine bodyPost_ret (results_tmp2 rfl _ _ _) rfl ⟨.iface 57 (.agg #[.int .i64 x.src, .int .i64 x.term, .int .i64 x.index, .int .i64 x.last]), rfl, ⟨by rw [HC.out.2]; exact HIK.out, HC.out.1, ⟨none, 0, HV.out.symm, ?_⟩, by rw [HE.out]; simp⟩, (Step.refl [] w).alloc _⟩
  rw [HE.out]
  exact (Row.none _ 3).rd

set_option maxHeartbeats 1000000 in
theorem of2_any (x : Rw) (a : Option Addr) (cap : Nat) (w : World) (hk : x.kind = 2) : Calls Try.prog 9 #[rwV x (.slice a x.es.length cap)] w (OfPost x w) := by
  have hik : isKind x.kind = true := by rw [hk]; rfl
  have HV := Lib.hid (show msgV (cleanL x) (.slice none (cleanL x).es.length 0) = .iface 55 (.agg #[.int .i64 x.src, .int .i64 x.term, .bool x.yes]) by simp [msgV, cleanL, hk])
  have HE := Lib.hid (show (cleanL x).es = [] by simp [cleanL, hk])
  have HC := Lib.hid (clean_clean x hik)
  have h1 : (x.kind == 1) = false := by rw [hk]; rfl
  have h2 : (x.kind == 2) = true := by rw [hk]; rfl
  have h3 : (x.kind == 3) = false := by rw [hk]; rfl
  have h4 : (x.kind == 4) = false := by rw [hk]; rfl
  have h5 : (x.kind == 5) = false := by rw [hk]; rfl
  have HIK := Lib.hid hik
  clear hk hik
  go_enter Try.func9, Try.ntmps9
  go_wp2_with fail
  refine bodyPost_ret (results_tmp2 rfl _ _ _) rfl ⟨.iface 55 (.agg #[.int .i64 x.src, .int .i64 x.term, .bool x.yes]), rfl, ⟨by rw [HC.out.2]; exact HIK.out, HC.out.1, ⟨none, 0, HV.out.symm, ?_⟩, by rw [HE.out]; simp⟩, (Step.refl [] w).alloc _⟩
  rw [HE.out]
  exact (Row.none _ 3).rd

set_option maxHeartbeats 1000000 in
theorem of4_any (x : Rw) (a : Option Addr) (cap : Nat) (w : World) (hk : x.kind = 4) : Calls Try.prog 9 #[rwV x (.slice a x.es.length cap)] w (OfPost x w) := by
  have hik : isKind x.kind = true := by rw [hk]; rfl
  have HV := Lib.hid (show msgV (cleanL x) (.slice none (cleanL x).es.length 0) = .iface 62 (.agg #[.int .i64 x.src, .int .i64 x.term, .int .i64 x.index, .int .i64 x.round, .bool x.yes]) by simp [msgV, cleanL, hk])
  have HE := Lib.hid (show (cleanL x).es = [] by simp [cleanL, hk])
  have HC := Lib.hid (clean_clean x hik)
  have h1 : (x.kind == 1) = false := by rw [hk]; rfl
  have h2 : (x.kind == 2) = false := by rw [hk]; rfl
  have h3 : (x.kind == 3) = false := by rw [hk]; rfl
  have h4 : (x.kind == 4) = true := by rw [hk]; rfl
  have h5 : (x.kind == 5) = false := by rw [hk]; rfl
  have HIK := Lib.hid hik
  clear hk hik
  go_enter Try.func9, Try.ntmps9
  go_wp2_with fail
  refine bodyPost_ret (results_tmp2 rfl _ _ _) rfl ⟨.iface 62 (.agg #[.int .i64 x.src, .int .i64 x.term, .int .i64 x.index, .int .i64 x.round, .bool x.yes]), rfl, ⟨by rw [HC.out.2]; exact HIK.out, HC.out.1, ⟨none, 0, HV.out.symm, ?_⟩, by rw [HE.out]; simp⟩, (Step.refl [] w).alloc _⟩
  rw [HE.out]
  exact (Row.none _ 3).rd

set_option maxHeartbeats 1000000 in
theorem of5_any (x : Rw) (a : Option Addr) (cap : Nat) (w : World) (hk : x.kind = 5) : Calls Try.prog 9 #[rwV x (.slice a x.es.length cap)] w (OfPost x w) := by
  have hik : isKind x.kind = true := by rw [hk]; rfl
  have HV := Lib.hid (show msgV (cleanL x) (.slice none (cleanL x).es.length 0) = .iface 51 (.agg #[.int .i64 x.src, .int .i64 x.term, .int .i64 x.index, .int .i64 x.last, .int .i64 x.round, Str x.data]) by simp [msgV, cleanL, hk])
  have HE := Lib.hid (show (cleanL x).es = [] by simp [cleanL, hk])
  have HC := Lib.hid (clean_clean x hik)
  have h1 : (x.kind == 1) = false := by rw [hk]; rfl
  have h2 : (x.kind == 2) = false := by rw [hk]; rfl
  have h3 : (x.kind == 3) = false := by rw [hk]; rfl
  have h4 : (x.kind == 4) = false := by rw [hk]; rfl
  have h5 : (x.kind == 5) = true := by rw [hk]; rfl
  have HIK := Lib.hid hik
  clear hk hik
  go_enter Try.func9, Try.ntmps9
  go_wp2_with fail
  refine bodyPost_ret (results_tmp2 rfl _ _ _) rfl ⟨.iface 51 (.agg #[.int .i64 x.src, .int .i64 x.term, .int .i64 x.index, .int .i64 x.last, .int .i64 x.round, Str x.data]), rfl, ⟨by rw [HC.out.2]; exact HIK.out, HC.out.1, ⟨none, 0, HV.out.symm, ?_⟩, by rw [HE.out]; simp⟩, (Step.refl [] w).alloc _⟩
  rw [HE.out]
  exact (Row.none _ 3).rd

set_option maxHeartbeats 2000000 in
theorem of3_any (x : Rw) (a : Option Addr) (cap : Nat) (w : World) (hk : x.kind = 3) (hr : Rd w 3 a x.es.length (entcs x.es)) (hl : x.es.length ≤ 4398046511104) : Calls Try.prog 9 #[rwV x (.slice a x.es.length cap)] w (OfPost x w) := by
  have hik : isKind x.kind = true := by rw [hk]; rfl
  have HV := Lib.hid (show ∀ s, msgV (cleanL x) s = .iface 47 (.agg #[.int .i64 x.src, .int .i64 x.term, .int .i64 x.index, .int .i64 x.last, .int .i64 x.commit, .int .i64 x.round, s]) by intro s; simp [msgV, cleanL, hk])
  have HE := Lib.hid (show (cleanL x).es = x.es by simp [cleanL, hk])
  have HC := Lib.hid (clean_clean x hik)
  have h1 : (x.kind == 1) = false := by rw [hk]; rfl
  have h2 : (x.kind == 2) = false := by rw [hk]; rfl
  have h3 : (x.kind == 3) = true := by rw [hk]; rfl
  have h4 : (x.kind == 4) = false := by rw [hk]; rfl
  have h5 : (x.kind == 5) = false := by rw [hk]; rfl
  have HIK := Lib.hid hik
  have H1 : Hid (Blk (w.alloc (.cells (rwc x (.slice a x.es.length cap)).toArray 24)) w.heap.size 24 (rwc x (.slice a x.es.length cap)).toArray ∧ Rd (w.alloc (.cells (rwc x (.slice a x.es.length cap)).toArray 24)) 3 a x.es.length (entcs x.es) ∧ Step [] [] w (w.alloc (.cells (rwc x (.slice a x.es.length cap)).toArray 24))) := ⟨Blk.new w _ _, hr.alloc _, (Step.refl [] w).alloc _⟩
  clear hk hik hr
  go_enter Try.func9, Try.ntmps9
  go_wp2_with fail
  obtain ⟨b, hb⟩ : ∃ b, b = w.heap.size := ⟨_, rfl⟩
  obtain ⟨V, hV⟩ : ∃ V, V = w.alloc (.cells (rwc x (.slice a x.es.length cap)).toArray 24) := ⟨_, rfl⟩
  rw [← hV, ← hb] at H1
  rw [show w.alloc (.cells #[.int .i64 x.kind, .int .i64 x.src, .int .i64 x.term, .int .i64 x.index, .int .i64 x.last, .int .i64 x.commit, .int .i64 x.round, .bool x.yes, .slice a x.es.length cap, .string ⟨x.data.toArray⟩] 24) = V from hV.symm, ← hb]
  clear hV hb
  refine wp_region_held_drew (S := fun V => Hid (Blk V b 24 (rwc x (.slice a x.es.length cap)).toArray)) (by kernel_rfl) (Lib.hid H1.out.1.drew) (fun hHeld => ?_)
  refine wpAnyH_take (i := 0) (v := ?_) rfl (by kernel_rfl) (by kernel_rfl) (by kernel_rfl) (fun _ _ _ h => h) (Or.inl ⟨by rfl, ?_⟩) hHeld ?_
  rotate_left
  · intro w hSw
    have hSw1 := hSw
    clear hSw
    try dsimp only at hSw1
    go_simp
    try (with_reducible rfl)
  try simp only [Act.put, List.setIfInBounds_toArray, List.set_cons_zero, List.set_cons_succ, List.getElem_toArray, List.getElem_cons_zero, List.getElem_cons_succ]
  refine wpAnyH_take (i := 1) (v := ?_) rfl (by kernel_rfl) (by kernel_rfl) (by kernel_rfl) (fun _ _ _ h => h) (Or.inl ⟨by rfl, ?_⟩) hHeld ?_
  rotate_left
  · intro w hSw
    have hSw1 := hSw
    clear hSw
    have hb0 := hSw1.out.rw
    have hbl := hSw1.out.lt
    go_simp
    try (with_reducible rfl)
  try simp only [Act.put, List.setIfInBounds_toArray, List.set_cons_zero, List.set_cons_succ, List.getElem_toArray, List.getElem_cons_zero, List.getElem_cons_succ]
  refine wpAnyH_take (i := 2) (v := ?_) rfl (by kernel_rfl) (by kernel_rfl) (by kernel_rfl) (fun _ _ _ h => h) (Or.inl ⟨by rfl, ?_⟩) hHeld ?_
  rotate_left
  · intro w hSw
    have hSw1 := hSw
    clear hSw
    try dsimp only at hSw1
    go_simp
    try (with_reducible rfl)
  try simp only [Act.put, List.setIfInBounds_toArray, List.set_cons_zero, List.set_cons_succ, List.getElem_toArray, List.getElem_cons_zero, List.getElem_cons_succ]
  refine wpAnyH_take (i := 3) (v := ?_) rfl (by kernel_rfl) (by kernel_rfl) (by kernel_rfl) (fun _ _ _ h => h) (Or.inl ⟨by rfl, ?_⟩) hHeld ?_
  rotate_left
  · intro w hSw
    have hSw1 := hSw
    clear hSw
    have hb0 := hSw1.out.rw
    have hbl := hSw1.out.lt
    go_simp
    try (with_reducible rfl)
  try simp only [Act.put, List.setIfInBounds_toArray, List.set_cons_zero, List.set_cons_succ, List.getElem_toArray, List.getElem_cons_zero, List.getElem_cons_succ]
  refine wpAnyH_take (i := 4) (v := ?_) rfl (by kernel_rfl) (by kernel_rfl) (by kernel_rfl) (fun _ _ _ h => h) (Or.inl ⟨by rfl, ?_⟩) hHeld ?_
  rotate_left
  · intro w hSw
    have hSw1 := hSw
    clear hSw
    try dsimp only at hSw1
    go_simp
    try (with_reducible rfl)
  try simp only [Act.put, List.setIfInBounds_toArray, List.set_cons_zero, List.set_cons_succ, List.getElem_toArray, List.getElem_cons_zero, List.getElem_cons_succ]
  refine wpAnyH_take (i := 5) (v := ?_) rfl (by kernel_rfl) (by kernel_rfl) (by kernel_rfl) (fun _ _ _ h => h) (Or.inl ⟨by rfl, ?_⟩) hHeld ?_
  rotate_left
  · intro w hSw
    have hSw1 := hSw
    clear hSw
    have hb0 := hSw1.out.rw
    have hbl := hSw1.out.lt
    go_simp
    try (with_reducible rfl)
  try simp only [Act.put, List.setIfInBounds_toArray, List.set_cons_zero, List.set_cons_succ, List.getElem_toArray, List.getElem_cons_zero, List.getElem_cons_succ]
  refine wpAnyH_take (i := 6) (v := ?_) rfl (by kernel_rfl) (by kernel_rfl) (by kernel_rfl) (fun _ _ _ h => h) (Or.inl ⟨by rfl, ?_⟩) hHeld ?_
  rotate_left
  · intro w hSw
    have hSw1 := hSw
    clear hSw
    try dsimp only at hSw1
    go_simp
    try (with_reducible rfl)
  try simp only [Act.put, List.setIfInBounds_toArray, List.set_cons_zero, List.set_cons_succ, List.getElem_toArray, List.getElem_cons_zero, List.getElem_cons_succ]
  refine wpAnyH_take (i := 7) (v := ?_) rfl (by kernel_rfl) (by kernel_rfl) (by kernel_rfl) (fun _ _ _ h => h) (Or.inl ⟨by rfl, ?_⟩) hHeld ?_
  rotate_left
  · intro w hSw
    have hSw1 := hSw
    clear hSw
    have hb0 := hSw1.out.rw
    have hbl := hSw1.out.lt
    go_simp
    try (with_reducible rfl)
  try simp only [Act.put, List.setIfInBounds_toArray, List.set_cons_zero, List.set_cons_succ, List.getElem_toArray, List.getElem_cons_zero, List.getElem_cons_succ]
  refine wpAnyH_take (i := 8) (v := ?_) rfl (by kernel_rfl) (by kernel_rfl) (by kernel_rfl) (fun _ _ _ h => h) (Or.inl ⟨by rfl, ?_⟩) hHeld ?_
  rotate_left
  · intro w hSw
    have hSw1 := hSw
    clear hSw
    try dsimp only at hSw1
    go_simp
    try (with_reducible rfl)
  try simp only [Act.put, List.setIfInBounds_toArray, List.set_cons_zero, List.set_cons_succ, List.getElem_toArray, List.getElem_cons_zero, List.getElem_cons_succ]
  refine wpAnyH_take (i := 9) (v := ?_) rfl (by kernel_rfl) (by kernel_rfl) (by kernel_rfl) (fun _ _ _ h => h) (Or.inl ⟨by rfl, ?_⟩) hHeld ?_
  rotate_left
  · intro w hSw
    have hSw1 := hSw
    clear hSw
    have hb0 := hSw1.out.rw
    have hbl := hSw1.out.lt
    go_simp
    try (with_reducible rfl)
  try simp only [Act.put, List.setIfInBounds_toArray, List.set_cons_zero, List.set_cons_succ, List.getElem_toArray, List.getElem_cons_zero, List.getElem_cons_succ]
  refine wpAnyH_take (i := 10) (v := ?_) rfl (by kernel_rfl) (by kernel_rfl) (by kernel_rfl) (fun _ _ _ h => h) (Or.inl ⟨by rfl, ?_⟩) hHeld ?_
  rotate_left
  · intro w hSw
    have hSw1 := hSw
    clear hSw
    try dsimp only at hSw1
    go_simp
    try (with_reducible rfl)
  try simp only [Act.put, List.setIfInBounds_toArray, List.set_cons_zero, List.set_cons_succ, List.getElem_toArray, List.getElem_cons_zero, List.getElem_cons_succ]
  refine wpAnyH_take (i := 11) (v := ?_) rfl (by kernel_rfl) (by kernel_rfl) (by kernel_rfl) (fun _ _ _ h => h) (Or.inl ⟨by rfl, ?_⟩) hHeld ?_
  rotate_left
  · intro w hSw
    have hSw1 := hSw
    clear hSw
    have hb0 := hSw1.out.rw
    have hbl := hSw1.out.lt
    go_simp
    try (with_reducible rfl)
  try simp only [Act.put, List.setIfInBounds_toArray, List.set_cons_zero, List.set_cons_succ, List.getElem_toArray, List.getElem_cons_zero, List.getElem_cons_succ]
  refine wpAnyH_take (i := 12) (v := ?_) rfl (by kernel_rfl) (by kernel_rfl) (by kernel_rfl) (fun _ _ _ h => h) (Or.inl ⟨by rfl, ?_⟩) hHeld ?_
  rotate_left
  · intro w hSw
    have hSw1 := hSw
    clear hSw
    try dsimp only at hSw1
    go_simp
    try (with_reducible rfl)
  try simp only [Act.put, List.setIfInBounds_toArray, List.set_cons_zero, List.set_cons_succ, List.getElem_toArray, List.getElem_cons_zero, List.getElem_cons_succ]
  refine wpAnyH_take (i := 13) (v := ?_) rfl (by kernel_rfl) (by kernel_rfl) (by kernel_rfl) (fun _ _ _ h => h) (Or.inl ⟨by rfl, ?_⟩) hHeld ?_
  rotate_left
  · intro w hSw
    have hSw1 := hSw
    clear hSw
    have hb0 := hSw1.out.rw
    have hbl := hSw1.out.lt
    go_simp
    try (with_reducible rfl)
  try simp only [Act.put, List.setIfInBounds_toArray, List.set_cons_zero, List.set_cons_succ, List.getElem_toArray, List.getElem_cons_zero, List.getElem_cons_succ]
  refine wpAnyH_ready (rs := [14]) (by kernel_rfl) (by simp) ?_
  refine AllReadyH.cons rfl (fun K hK => ?_) AllReadyH.nil
  go_simp
  refine (cloneE_any x.es a cap V.drew H1.out.2.1.drew hl).mono ?_; rintro e V2 ⟨a2, cap2, rfl, r2, k2⟩; have H2 : Hid (Rd V2 3 a2 x.es.length (entcs x.es) ∧ Step [] [] w V2) := ⟨r2, H1.out.2.2.drew.trans (k2.drop (by simp))⟩; have KP := Lib.hid (hHeld.out.step k2 (by simp)); clear r2 k2
  go_wp2_with fail
  refine hK.out _ _ (KP) (fun hHeld2 => ?_)
  clear hK K hHeld
  try simp only [Act.put, List.setIfInBounds_toArray, List.set_cons_zero, List.set_cons_succ, List.getElem_toArray, List.getElem_cons_zero, List.getElem_cons_succ]
  refine wpAnyH_take (i := 15) (v := ?_) rfl (by kernel_rfl) (by kernel_rfl) (by kernel_rfl) (fun _ _ _ h => h) (Or.inl ⟨by rfl, ?_⟩) hHeld2 ?_
  rotate_left
  · intro w hSw
    have hSw1 := hSw
    clear hSw
    try dsimp only at hSw1
    go_simp
    try (with_reducible rfl)
  try simp only [Act.put, List.setIfInBounds_toArray, List.set_cons_zero, List.set_cons_succ, List.getElem_toArray, List.getElem_cons_zero, List.getElem_cons_succ]
  refine wpAnyH_take (i := 16) (v := ?_) rfl (by kernel_rfl) (by kernel_rfl) (by kernel_rfl) (fun _ _ _ h => h) (Or.inl ⟨by rfl, ?_⟩) hHeld2 ?_
  rotate_left
  · intro w hSw
    have hSw1 := hSw
    clear hSw
    try dsimp only at hSw1
    go_simp
    try (with_reducible rfl)
  try simp only [Act.put, List.setIfInBounds_toArray, List.set_cons_zero, List.set_cons_succ, List.getElem_toArray, List.getElem_cons_zero, List.getElem_cons_succ]
  refine wpAnyH_take (i := 17) (v := ?_) rfl (by kernel_rfl) (by kernel_rfl) (by kernel_rfl) (fun _ _ _ h => h) (Or.inl ⟨by rfl, ?_⟩) hHeld2 ?_
  rotate_left
  · intro w hSw
    have hSw1 := hSw
    clear hSw
    try dsimp only at hSw1
    go_simp
    try (with_reducible rfl)
  try simp only [Act.put, List.setIfInBounds_toArray, List.set_cons_zero, List.set_cons_succ, List.getElem_toArray, List.getElem_cons_zero, List.getElem_cons_succ]
  refine wpAnyH_take (i := 18) (v := ?_) rfl (by kernel_rfl) (by kernel_rfl) (by kernel_rfl) (fun _ _ _ h => h) (Or.inl ⟨by rfl, ?_⟩) hHeld2 ?_
  rotate_left
  · intro w hSw
    have hSw1 := hSw
    clear hSw
    try dsimp only at hSw1
    go_simp
    try (with_reducible rfl)
  try simp only [Act.put, List.setIfInBounds_toArray, List.set_cons_zero, List.set_cons_succ, List.getElem_toArray, List.getElem_cons_zero, List.getElem_cons_succ]
  refine wpAnyH_done (by kernel_rfl) ?_ _
  go_wp2_with fail
  refine bodyPost_ret (results_tmp2 rfl _ _ _) rfl ⟨.iface 47 (.agg #[.int .i64 x.src, .int .i64 x.term, .int .i64 x.index, .int .i64 x.last, .int .i64 x.commit, .int .i64 x.round, .slice a2 x.es.length cap2]), rfl, ⟨by rw [HC.out.2]; exact HIK.out, HC.out.1, ⟨a2, cap2, ?_, by rw [HE.out]; exact H2.out.1⟩, by rw [HE.out]; exact hl⟩, H2.out.2⟩
  rw [HV.out, HE.out]

theorem of_any (x : Rw) (a : Option Addr) (cap : Nat) (w : World) (hk : isKind x.kind = true) (hr : Rd w 3 a x.es.length (entcs x.es)) (hl : x.es.length ≤ 4398046511104) : Calls Try.prog 9 #[rwV x (.slice a x.es.length cap)] w (OfPost x w) := by
  rcases kind_cases hk with h | h | h | h | h
  · exact of1_any x a cap w h
  · exact of2_any x a cap w h
  · exact of3_any x a cap w h hr hl
  · exact of4_any x a cap w h
  · exact of5_any x a cap w h
end Go.Proofs.Ytihklmomipidaaa
