/- Inside (reference), access.open and linear.at. No condition. -/
import Derived.Test.YthkfjdhakbjllaaAcc2
import Derived.Test.YthkfjdhakbjllaaSize2
namespace Go.Proofs.Ythkfjdhakbjllaa
open Go.RowKit Go.Shelf
set_option linter.unusedVariables false
set_option linter.unusedSimpArgs false

def insideB (k : Int) (s ix : List Int) : Bool := ix.all (nearB 100000) && (decide (ix.length = s.length) || (k == 1 && decide (ix.length ≤ 16)))

set_option maxHeartbeats 1000000 in
theorem Inside_any (k b e : Int) (p : Option Addr) (c : Nat) (s : List Int) (st sp md : Int) (q : Option Addr) (d : Nat) (ix : List Int) (w : World) (h : Ints w p s) (h' : Ints w q ix) :
    Calls Try.prog 66 #[.agg #[.int .i64 k, .int .i64 b, .int .i64 e, .slice p s.length c, .int .i64 st, .int .i64 sp, .int .i64 md], .slice q ix.length d] w fun e' w' => e' = .returned (.bool (insideB k s ix)) ∧ Below w.heap.size w w' := by
  have hn := h.small
  have hn' := h'.small
  go_enter Try.func66, Try.ntmps66
  go_wp2
  go_loop [5] (fun i => ∃ j : Nat, j ≤ ix.length ∧ i = .int .i64 j ∧ Hid ((ix.take j).all (nearB 100000) = true)) (fun i => ix.length - (intOf i).toNat)
  case atStart => exact ⟨0, Nat.zero_le _, rfl, by simp [Hid]⟩
  case round =>
    obtain ⟨j, hj, rfl, hI⟩ := hrel
    by_cases hlt : j < ix.length
    · have h'' := h'.keep (below_alloc w (.cells #[.int .i64 k, .int .i64 b, .int .i64 e, .slice p s.length c, .int .i64 st, .int .i64 sp, .int .i64 md] 89))
      obtain ⟨b1, o1, rfl, -, hc⟩ := h''.at hlt
      have hi : (j : Int) < (ix.length : Int) := by omega
      cases hx : nearB 100000 (nth ix j) with
      | true =>
        have Hi : Hid ((ix.take (j + 1)).all (nearB 100000) = true) := by unfold Hid; rw [take_nth hlt, List.all_append, hI.out]; simp [hx]
        have Hx := Lib.hid hx
        clear hx
        go_wp2_with fail
        refine (near_is _ 100000 true Hx.out _ (by omega) (by omega)).mono ?_
        rintro e' w' ⟨rfl, rfl⟩
        go_wp2_with fail
        go_round
        case rel => exact ⟨j + 1, by omega, by go_num, Hi⟩
        case measure => simp [intOf]; omega
      | false =>
        have Hi : Hid (insideB k s ix = false) := by
          have : ix.all (nearB 100000) = false := by
            rw [List.all_eq_false]
            exact ⟨nth ix j, nth_mem hlt, by simp [hx]⟩
          simp [Hid, insideB, this]
        have Hx := Lib.hid hx
        clear hx
        go_wp2_with fail
        refine (near_is _ 100000 false Hx.out _ (by omega) (by omega)).mono ?_
        rintro e' w' ⟨rfl, rfl⟩
        go_wp2_with fail
        go_ret
        exact ⟨ret_bool Hi.out.symm, below_alloc _ _⟩
    · have Hall : Hid (ix.all (nearB 100000) = true) := by
        have := hI.out
        rw [List.take_of_length_le (by omega)] at this
        exact this
      by_cases hl : ix.length = s.length
      · have H : Hid (insideB k s ix = true) := by simp [Hid, insideB, Hall.out, hl]
        have hlb : ((ix.length : Int) == (s.length : Int)) = true := by simp [hl]
        clear hl
        go_wp2
        go_ret
        exact ⟨ret_bool H.out.symm, below_alloc _ _⟩
      · have hlb : ((ix.length : Int) == (s.length : Int)) = false := by rw [beq_eq_false_iff_ne]; omega
        by_cases hk : k = 1
        · have H : Hid (insideB k s ix = decide ((ix.length : Int) ≤ 16)) := by
            have e : decide (ix.length ≤ 16) = decide ((ix.length : Int) ≤ 16) := by simp; omega
            simp only [Hid, insideB, Hall.out, hl, hk, e]
            simp
          have hkb : (k == 1) = true := by simp [hk]
          clear hl hk
          go_wp2
          go_ret
          exact ⟨ret_bool H.out.symm, below_alloc _ _⟩
        · have H : Hid (insideB k s ix = false) := by simp [Hid, insideB, hl, hk]
          have hkb : (k == 1) = false := by simp [hk]
          clear hl hk
          go_wp2
          go_ret
          exact ⟨ret_bool H.out.symm, below_alloc _ _⟩
theorem Inside_is (k b e : Int) (p : Option Addr) (c : Nat) (s : List Int) (st sp md : Int) (q : Option Addr) (d : Nat) (ix : List Int) (r : Bool) (hr : insideB k s ix = r) (w : World) (h : Ints w p s) (h' : Ints w q ix) :
    Calls Try.prog 66 #[.agg #[.int .i64 k, .int .i64 b, .int .i64 e, .slice p s.length c, .int .i64 st, .int .i64 sp, .int .i64 md], .slice q ix.length d] w fun e' w' => e' = .returned (.bool r) ∧ Below w.heap.size w w' := hr ▸ Inside_any k b e p c s st sp md q d ix w h h'

theorem keeps_at7 (g : Nat) (k b e : Int) (v : Value) (st sp md : Int) : Keeps fun w => g < w.heap.size ∧ w.cell? ⟨g, 0, none⟩ = some (.int .i64 k) ∧ w.cell? ⟨g, 1, none⟩ = some (.int .i64 b) ∧ w.cell? ⟨g, 2, none⟩ = some (.int .i64 e) ∧ w.cell? ⟨g, 3, none⟩ = some v ∧ w.cell? ⟨g, 4, none⟩ = some (.int .i64 st) ∧ w.cell? ⟨g, 5, none⟩ = some (.int .i64 sp) ∧ w.cell? ⟨g, 6, none⟩ = some (.int .i64 md) := by
  rintro w w' ⟨h0, h1, h2, h3, h4, h5, h6, h7⟩ hb
  have A := At7.keep ⟨h0, h1, h2, h3, h4, h5, h6, h7⟩ hb
  exact ⟨A.lt, A.c0, A.c1, A.c2, A.c3, A.c4, A.c5, A.c6⟩

theorem quiet_of_draws {P : Program} {f : FuncId} {args : Array Value} {w : World} {n : Nat} {v : Value} (h : Calls P f args (w.drewN n) fun e w' => e = .returned v ∧ ∃ m, w' = (w.drewN n).drewN m) : Calls P f args (w.drewN n) fun e w'' => e = .returned v ∧ ∃ m, w'' = w.drewN m :=
  h.mono fun _ _ ⟨he, m, hm⟩ => ⟨he, n + m, by rw [hm, World.drewN_drewN]⟩
/-- the block that access.open makes -/
def Moving (w : World) (g : Nat) (x : Int) (p' : Option Addr) (c' : Nat) (ys : List Int) (k b e : Int) (v : Value) (st sp md : Int) : Prop :=
  Own w g 131 [.int .i64 x, .slice p' ys.length c', .int .i64 k, .int .i64 b, .int .i64 e, v, .int .i64 st, .int .i64 sp, .int .i64 md]
def Opened (w : World) (x : Int) (s : List Int) (k b e : Int) (v : Value) (st sp md : Int) (e' : Ending) (w' : World) : Prop :=
  ∃ g p' c', e' = .returned (.pointer (some ⟨g, 0, none⟩)) ∧ w.heap.size < g ∧ Moving w' g x p' c' s k b e v st sp md ∧ New w.heap.size w' p' 3 (s.map (.int .i64)) ∧ Below w.heap.size w w'
/-- the first number of an access's linear form -/
def firstS (k e st : Int) : Int := if k = 3 then st else e

set_option maxRecDepth 100000 in
set_option maxHeartbeats 2000000 in
theorem open_yes (k b e : Int) (p : Option Addr) (c : Nat) (s : List Int) (st sp md : Int) (w : World) (h : Ints w p s) (hl : s.length ≤ 1000000) (hk : k = 3) :
    Calls Try.prog 106 #[.agg #[.int .i64 k, .int .i64 b, .int .i64 e, .slice p s.length c, .int .i64 st, .int .i64 sp, .int .i64 md]] w (Opened w (firstS k e st) s k b e (.slice p s.length c) st sp md) := by
  have hkb : (k == 3) = true := by simp [hk]
  have Hf : Hid (firstS k e st = st) := if_pos hk
  clear hk
  go_enter Try.func106, Try.ntmps106
  go_wp2_with fail
  have hKS : Keeps (fun w' => (w.heap.size < w'.heap.size ∧ w'.cell? ⟨w.heap.size, 0, none⟩ = some (.int .i64 k) ∧ w'.cell? ⟨w.heap.size, 1, none⟩ = some (.int .i64 b) ∧ w'.cell? ⟨w.heap.size, 2, none⟩ = some (.int .i64 e) ∧ w'.cell? ⟨w.heap.size, 3, none⟩ = some (.slice p s.length c) ∧ w'.cell? ⟨w.heap.size, 4, none⟩ = some (.int .i64 st) ∧ w'.cell? ⟨w.heap.size, 5, none⟩ = some (.int .i64 sp) ∧ w'.cell? ⟨w.heap.size, 6, none⟩ = some (.int .i64 md)) ∧ Ints w' p s ∧ Below w.heap.size w w') := (keeps_at7 _ _ _ _ _ _ _ _).and ((keeps_ints _ _).and (keeps_below _))
  have A := At7.new w _ k b e (.slice p s.length c) st sp md 93 rfl
  have hS := hKS (w.alloc (.cells #[.int .i64 k, .int .i64 b, .int .i64 e, .slice p s.length c, .int .i64 st, .int .i64 sp, .int .i64 md] 93)) _ ⟨⟨A.lt, A.c0, A.c1, A.c2, A.c3, A.c4, A.c5, A.c6⟩, h.keep (below_alloc _ _), below_alloc _ _⟩ (Below.refl _ _)
  clear A
  refine wp_region_noPanic ?_
  refine wp_region_held_drew (S := (fun w' => (w.heap.size < w'.heap.size ∧ w'.cell? ⟨w.heap.size, 0, none⟩ = some (.int .i64 k) ∧ w'.cell? ⟨w.heap.size, 1, none⟩ = some (.int .i64 b) ∧ w'.cell? ⟨w.heap.size, 2, none⟩ = some (.int .i64 e) ∧ w'.cell? ⟨w.heap.size, 3, none⟩ = some (.slice p s.length c) ∧ w'.cell? ⟨w.heap.size, 4, none⟩ = some (.int .i64 st) ∧ w'.cell? ⟨w.heap.size, 5, none⟩ = some (.int .i64 sp) ∧ w'.cell? ⟨w.heap.size, 6, none⟩ = some (.int .i64 md)) ∧ Ints w' p s ∧ Below w.heap.size w w')) (by kernel_rfl) ?_ (fun hHeld => ?_)
  · (try dsimp only); exact hKS _ _ (by first | exact hHeld | exact hS) (by first | assumption | (go_grown; done) | (refine from_drew ?_; go_grown; done))
  refine takeH 0 (some 4) (v := ?_) rfl rfl (by kernel_rfl) (by kernel_rfl) (by kernel_rfl) (by rfl) ?_ (by exact hHeld) ?_
  rotate_left
  · intro w hSw; (try dsimp only at hSw); go_simp; try (with_reducible rfl)
  try simp only [Act.put, List.setIfInBounds_toArray, List.set_cons_zero, List.set_cons_succ]
  refine takeH 1 (some 5) (v := ?_) rfl rfl (by kernel_rfl) (by kernel_rfl) (by kernel_rfl) (by rfl) ?_ (by exact hHeld) ?_
  rotate_left
  · intro w hSw; (try dsimp only at hSw); go_simp; try (with_reducible rfl)
  try simp only [Act.put, List.setIfInBounds_toArray, List.set_cons_zero, List.set_cons_succ]
  refine takeH 2 (some 6) (v := ?_) rfl rfl (by kernel_rfl) (by kernel_rfl) (by kernel_rfl) (by rfl) ?_ (by exact hHeld) ?_
  rotate_left
  · intro w hSw; (try dsimp only at hSw); go_simp; try (with_reducible rfl)
  try simp only [Act.put, List.setIfInBounds_toArray, List.set_cons_zero, List.set_cons_succ]
  refine takeH 3 (some 7) (v := ?_) rfl rfl (by kernel_rfl) (by kernel_rfl) (by kernel_rfl) (by rfl) ?_ (by exact hHeld) ?_
  rotate_left
  · intro w hSw; (try dsimp only at hSw); go_simp; try (with_reducible rfl)
  try simp only [Act.put, List.setIfInBounds_toArray, List.set_cons_zero, List.set_cons_succ]
  refine takeH 6 (some 10) (v := ?_) rfl rfl (by kernel_rfl) (by kernel_rfl) (by kernel_rfl) (by rfl) ?_ (by exact hHeld) ?_
  rotate_left
  · intro w hSw; (try dsimp only at hSw); go_simp; try (with_reducible rfl)
  try simp only [Act.put, List.setIfInBounds_toArray, List.set_cons_zero, List.set_cons_succ]
  refine wpAnyH_ready (rs := [4]) (by kernel_rfl) (by simp) ?_
  refine stepH 4 rfl (by rfl) (fun K hK => ?_) ?_
  · go_simp
    ((with_reducible refine (Clone_any _ _ s _ ?_ hl).mono ?_); (go_split_ands; assumption); rintro e1 w1 ⟨⟨p', c', rfl, hn1⟩, hb1⟩)
    refine hK.out _ _ ?_ (fun hNew => ?_)
    · (try dsimp only); exact hKS _ _ (by first | exact hHeld | exact hS) (by first | assumption | (go_grown; done) | (refine from_drew ?_; go_grown; done))
    clear hK K hHeld
    have hHeld := hNew
    clear hNew
    try dsimp only at hHeld
    try simp only [Act.put, List.setIfInBounds_toArray, List.set_cons_zero, List.set_cons_succ]
    refine takeH 5 (some 9) (v := ?_) rfl rfl (by kernel_rfl) (by kernel_rfl) (by kernel_rfl) (by rfl) ?_ (by exact hHeld) ?_
    rotate_left
    · intro w hSw; (try dsimp only at hSw); go_simp; try (with_reducible rfl)
    try simp only [Act.put, List.setIfInBounds_toArray, List.set_cons_zero, List.set_cons_succ]
    refine takeH 7 (some 11) (v := ?_) rfl rfl (by kernel_rfl) (by kernel_rfl) (by kernel_rfl) (by rfl) ?_ (by exact hHeld) ?_
    rotate_left
    · intro w hSw; (try dsimp only at hSw); go_simp; try (with_reducible rfl)
    try simp only [Act.put, List.setIfInBounds_toArray, List.set_cons_zero, List.set_cons_succ]
    refine wpAnyH_ready (rs := [8]) (by kernel_rfl) (by simp) ?_
    refine stepH 8 rfl (by rfl) (fun K hK => ?_) ?_
    · go_simp
      refine hK.out _ _ ?_ (fun hNew => ?_)
      · (try dsimp only); exact hKS _ _ (by first | exact hHeld | exact hS) (by first | assumption | (go_grown; done) | (refine from_drew ?_; go_grown; done))
      clear hK K hHeld
      have hHeld := hNew
      clear hNew
      try dsimp only at hHeld
      try simp only [Act.put, List.setIfInBounds_toArray, List.set_cons_zero, List.set_cons_succ]
      refine takeH 9 (some 3) (v := ?_) rfl rfl (by kernel_rfl) (by kernel_rfl) (by kernel_rfl) (by rfl) ?_ (by exact hHeld) ?_
      rotate_left
      · intro w hSw; (try dsimp only at hSw); go_simp; try (with_reducible rfl)
      try simp only [Act.put, List.setIfInBounds_toArray, List.set_cons_zero, List.set_cons_succ]
      refine wpAnyH_done (by kernel_rfl) ?_ _
      refine NoPanic.normal ?_
      obtain ⟨⟨hz, a0, a1, a2, a3, a4, a5, a6⟩, hs', hbw⟩ := hHeld
      go_wp2
      have hz1 := hb1.size
      have hz2 : w.heap.size < w1.heap.size := by simp at hz1; omega
      have hz3 : w.heap.size ≤ (World.drew (World.alloc w (.cells #[.int .i64 k, .int .i64 b, .int .i64 e, .slice p s.length c, .int .i64 st, .int .i64 sp, .int .i64 md] 93))).heap.size := by simp
      have hO := Own.made w1 _ [.int .i64 e, .slice p' s.length c', .int .i64 k, .int .i64 b, .int .i64 e, .slice p s.length c, .int .i64 st, .int .i64 sp, .int .i64 md] 131 rfl
      have ho := Own.made w1 _ [.int .i64 st, .slice p' s.length c', .int .i64 k, .int .i64 b, .int .i64 e, .slice p s.length c, .int .i64 st, .int .i64 sp, .int .i64 md] 131 rfl
      go_ret
      refine ⟨w1.heap.size, p', c', rfl, hz2, ?_, ?_, ?_⟩
      · rw [Hf.out]; exact ho
      · exact (hn1.keep' (below_alloc _ _)).mono (by omega)
      · exact below_t (below_t ((below_alloc w _).drew) hb1) (below_alloc _ _)
    exact AllReadyH.nil
  exact AllReadyH.nil

set_option maxRecDepth 100000 in
set_option maxHeartbeats 2000000 in
theorem open_no (k b e : Int) (p : Option Addr) (c : Nat) (s : List Int) (st sp md : Int) (w : World) (h : Ints w p s) (hl : s.length ≤ 1000000) (hk : k ≠ 3) :
    Calls Try.prog 106 #[.agg #[.int .i64 k, .int .i64 b, .int .i64 e, .slice p s.length c, .int .i64 st, .int .i64 sp, .int .i64 md]] w (Opened w (firstS k e st) s k b e (.slice p s.length c) st sp md) := by
  have hkb : (k == 3) = false := by simp [hk]
  have Hf : Hid (firstS k e st = e) := if_neg hk
  clear hk
  go_enter Try.func106, Try.ntmps106
  go_wp2_with fail
  have hKS : Keeps (fun w' => (w.heap.size < w'.heap.size ∧ w'.cell? ⟨w.heap.size, 0, none⟩ = some (.int .i64 k) ∧ w'.cell? ⟨w.heap.size, 1, none⟩ = some (.int .i64 b) ∧ w'.cell? ⟨w.heap.size, 2, none⟩ = some (.int .i64 e) ∧ w'.cell? ⟨w.heap.size, 3, none⟩ = some (.slice p s.length c) ∧ w'.cell? ⟨w.heap.size, 4, none⟩ = some (.int .i64 st) ∧ w'.cell? ⟨w.heap.size, 5, none⟩ = some (.int .i64 sp) ∧ w'.cell? ⟨w.heap.size, 6, none⟩ = some (.int .i64 md)) ∧ Ints w' p s ∧ Below w.heap.size w w') := (keeps_at7 _ _ _ _ _ _ _ _).and ((keeps_ints _ _).and (keeps_below _))
  have A := At7.new w _ k b e (.slice p s.length c) st sp md 93 rfl
  have hS := hKS (w.alloc (.cells #[.int .i64 k, .int .i64 b, .int .i64 e, .slice p s.length c, .int .i64 st, .int .i64 sp, .int .i64 md] 93)) _ ⟨⟨A.lt, A.c0, A.c1, A.c2, A.c3, A.c4, A.c5, A.c6⟩, h.keep (below_alloc _ _), below_alloc _ _⟩ (Below.refl _ _)
  clear A
  refine wp_region_noPanic ?_
  refine wp_region_held_drew (S := (fun w' => (w.heap.size < w'.heap.size ∧ w'.cell? ⟨w.heap.size, 0, none⟩ = some (.int .i64 k) ∧ w'.cell? ⟨w.heap.size, 1, none⟩ = some (.int .i64 b) ∧ w'.cell? ⟨w.heap.size, 2, none⟩ = some (.int .i64 e) ∧ w'.cell? ⟨w.heap.size, 3, none⟩ = some (.slice p s.length c) ∧ w'.cell? ⟨w.heap.size, 4, none⟩ = some (.int .i64 st) ∧ w'.cell? ⟨w.heap.size, 5, none⟩ = some (.int .i64 sp) ∧ w'.cell? ⟨w.heap.size, 6, none⟩ = some (.int .i64 md)) ∧ Ints w' p s ∧ Below w.heap.size w w')) (by kernel_rfl) ?_ (fun hHeld => ?_)
  · (try dsimp only); exact hKS _ _ (by first | exact hHeld | exact hS) (by first | assumption | (go_grown; done) | (refine from_drew ?_; go_grown; done))
  refine takeH 0 (some 4) (v := ?_) rfl rfl (by kernel_rfl) (by kernel_rfl) (by kernel_rfl) (by rfl) ?_ (by exact hHeld) ?_
  rotate_left
  · intro w hSw; (try dsimp only at hSw); go_simp; try (with_reducible rfl)
  try simp only [Act.put, List.setIfInBounds_toArray, List.set_cons_zero, List.set_cons_succ]
  refine takeH 1 (some 5) (v := ?_) rfl rfl (by kernel_rfl) (by kernel_rfl) (by kernel_rfl) (by rfl) ?_ (by exact hHeld) ?_
  rotate_left
  · intro w hSw; (try dsimp only at hSw); go_simp; try (with_reducible rfl)
  try simp only [Act.put, List.setIfInBounds_toArray, List.set_cons_zero, List.set_cons_succ]
  refine takeH 2 (some 6) (v := ?_) rfl rfl (by kernel_rfl) (by kernel_rfl) (by kernel_rfl) (by rfl) ?_ (by exact hHeld) ?_
  rotate_left
  · intro w hSw; (try dsimp only at hSw); go_simp; try (with_reducible rfl)
  try simp only [Act.put, List.setIfInBounds_toArray, List.set_cons_zero, List.set_cons_succ]
  refine takeH 3 (some 7) (v := ?_) rfl rfl (by kernel_rfl) (by kernel_rfl) (by kernel_rfl) (by rfl) ?_ (by exact hHeld) ?_
  rotate_left
  · intro w hSw; (try dsimp only at hSw); go_simp; try (with_reducible rfl)
  try simp only [Act.put, List.setIfInBounds_toArray, List.set_cons_zero, List.set_cons_succ]
  refine takeH 6 (some 10) (v := ?_) rfl rfl (by kernel_rfl) (by kernel_rfl) (by kernel_rfl) (by rfl) ?_ (by exact hHeld) ?_
  rotate_left
  · intro w hSw; (try dsimp only at hSw); go_simp; try (with_reducible rfl)
  try simp only [Act.put, List.setIfInBounds_toArray, List.set_cons_zero, List.set_cons_succ]
  refine wpAnyH_ready (rs := [4]) (by kernel_rfl) (by simp) ?_
  refine stepH 4 rfl (by rfl) (fun K hK => ?_) ?_
  · go_simp
    ((with_reducible refine (Clone_any _ _ s _ ?_ hl).mono ?_); (go_split_ands; assumption); rintro e1 w1 ⟨⟨p', c', rfl, hn1⟩, hb1⟩)
    refine hK.out _ _ ?_ (fun hNew => ?_)
    · (try dsimp only); exact hKS _ _ (by first | exact hHeld | exact hS) (by first | assumption | (go_grown; done) | (refine from_drew ?_; go_grown; done))
    clear hK K hHeld
    have hHeld := hNew
    clear hNew
    try dsimp only at hHeld
    try simp only [Act.put, List.setIfInBounds_toArray, List.set_cons_zero, List.set_cons_succ]
    refine takeH 5 (some 9) (v := ?_) rfl rfl (by kernel_rfl) (by kernel_rfl) (by kernel_rfl) (by rfl) ?_ (by exact hHeld) ?_
    rotate_left
    · intro w hSw; (try dsimp only at hSw); go_simp; try (with_reducible rfl)
    try simp only [Act.put, List.setIfInBounds_toArray, List.set_cons_zero, List.set_cons_succ]
    refine takeH 7 (some 11) (v := ?_) rfl rfl (by kernel_rfl) (by kernel_rfl) (by kernel_rfl) (by rfl) ?_ (by exact hHeld) ?_
    rotate_left
    · intro w hSw; (try dsimp only at hSw); go_simp; try (with_reducible rfl)
    try simp only [Act.put, List.setIfInBounds_toArray, List.set_cons_zero, List.set_cons_succ]
    refine wpAnyH_ready (rs := [8]) (by kernel_rfl) (by simp) ?_
    refine stepH 8 rfl (by rfl) (fun K hK => ?_) ?_
    · go_simp
      refine hK.out _ _ ?_ (fun hNew => ?_)
      · (try dsimp only); exact hKS _ _ (by first | exact hHeld | exact hS) (by first | assumption | (go_grown; done) | (refine from_drew ?_; go_grown; done))
      clear hK K hHeld
      have hHeld := hNew
      clear hNew
      try dsimp only at hHeld
      try simp only [Act.put, List.setIfInBounds_toArray, List.set_cons_zero, List.set_cons_succ]
      refine takeH 9 (some 3) (v := ?_) rfl rfl (by kernel_rfl) (by kernel_rfl) (by kernel_rfl) (by rfl) ?_ (by exact hHeld) ?_
      rotate_left
      · intro w hSw; (try dsimp only at hSw); go_simp; try (with_reducible rfl)
      try simp only [Act.put, List.setIfInBounds_toArray, List.set_cons_zero, List.set_cons_succ]
      refine wpAnyH_done (by kernel_rfl) ?_ _
      refine NoPanic.normal ?_
      obtain ⟨⟨hz, a0, a1, a2, a3, a4, a5, a6⟩, hs', hbw⟩ := hHeld
      go_wp2
      have hz1 := hb1.size
      have hz2 : w.heap.size < w1.heap.size := by simp at hz1; omega
      have hz3 : w.heap.size ≤ (World.drew (World.alloc w (.cells #[.int .i64 k, .int .i64 b, .int .i64 e, .slice p s.length c, .int .i64 st, .int .i64 sp, .int .i64 md] 93))).heap.size := by simp
      have hO := Own.made w1 _ [.int .i64 e, .slice p' s.length c', .int .i64 k, .int .i64 b, .int .i64 e, .slice p s.length c, .int .i64 st, .int .i64 sp, .int .i64 md] 131 rfl
      go_ret
      refine ⟨w1.heap.size, p', c', rfl, hz2, ?_, ?_, ?_⟩
      · rw [Hf.out]; exact hO
      · exact (hn1.keep' (below_alloc _ _)).mono (by omega)
      · exact hbw
    exact AllReadyH.nil
  exact AllReadyH.nil

theorem open_any (k b e : Int) (p : Option Addr) (c : Nat) (s : List Int) (st sp md : Int) (w : World) (h : Ints w p s) (hl : s.length ≤ 1000000) :
    Calls Try.prog 106 #[.agg #[.int .i64 k, .int .i64 b, .int .i64 e, .slice p s.length c, .int .i64 st, .int .i64 sp, .int .i64 md]] w (Opened w (firstS k e st) s k b e (.slice p s.length c) st sp md) := by
  by_cases hk : k = 3
  · exact open_yes k b e p c s st sp md w h hl hk
  · exact open_no k b e p c s st sp md w h hl hk

theorem linat_any (x D : Int) (p q : Option Addr) (c d : Nat) (s ix : List Int) (hD : dotW s ix 0 = D) (w : World) (h : Ints w p s) (h' : Ints w q ix) (hx : -1000000000000 ≤ x ∧ x ≤ 1000000000000) (hd : -1000000000000000000 ≤ D ∧ D ≤ 1000000000000000000) :
    Calls Try.prog 107 #[.agg #[.int .i64 x, .slice p s.length c], .slice q ix.length d] w fun e' w' => e' = .returned (.int .i64 (x + D)) ∧ Below w.heap.size w w' := by
  have Hdot : Hid (∀ W, Ints W p s → Ints W q ix → Calls Try.prog 29 #[.slice p s.length c, .slice q ix.length d] W fun e w' => e = .returned (.int .i64 D) ∧ ∃ n, w' = W.drewN n) := by
    intro W h1 h2
    have := Dot_any p q c d s ix W h1 h2
    rw [hD] at this
    exact this
  obtain ⟨hx1, hx2⟩ := hx
  obtain ⟨hd1, hd2⟩ := hd
  clear hD
  go_enter Try.func107, Try.ntmps107
  go_wp2_with fail
  go_quiet ((go_at_call 29; exact quiet_of_draws (Hdot.out _ (Ints.drew (h.keep (below_alloc _ _)) _) (Ints.drew (h'.keep (below_alloc _ _)) _))))
  go_wp2_with fail
  go_ret
  exact ⟨rfl, (below_alloc _ _).trans (below_drewN _ _ _)⟩
end Go.Proofs.Ythkfjdhakbjllaa
