/- The law AccessReads, walked: it returns true at all arguments and writes nothing that was there. No condition. -/
import Derived.Test.YthkfjdhakbjllaaLaw17
namespace Go.Proofs.Ythkfjdhakbjllaa
open Go.RowKit Go.Shelf
set_option linter.unusedVariables false
set_option linter.unusedSimpArgs false

theorem mul_bd {x y A B : Int} (hA : 0 ≤ A) (hB : 0 ≤ B) (hx : -A ≤ x ∧ x ≤ A) (hy : -B ≤ y ∧ y ≤ B) : -(A * B) ≤ x * y ∧ x * y ≤ A * B := by
  have h1 : x.natAbs ≤ A.natAbs := by omega
  have h2 : y.natAbs ≤ B.natAbs := by omega
  have h3 := Nat.mul_le_mul h1 h2
  rw [← Int.natAbs_mul, ← Int.natAbs_mul] at h3
  have h4 := Int.mul_nonneg hA hB
  omega

theorem dot_bd (a : List Int) : ∀ (b : List Int) (q : Int), (∀ x ∈ a, -1000000000 ≤ x ∧ x ≤ 1000000000) → (∀ y ∈ b, -100000 ≤ y ∧ y ≤ 100000) → ∀ B : Int, 0 ≤ B → B + 100000000000000 * a.length ≤ 100000000000000000 → -B ≤ q → q ≤ B → -100000000000000000 ≤ dotW a b q ∧ dotW a b q ≤ 100000000000000000 := by
  induction a with
  | nil =>
    intro b q _ _ B hB h0 h1 h2
    simp only [List.length_nil] at h0
    simp only [dotW]
    omega
  | cons x a ih =>
    intro b q ha hb B hB h0 h1 h2
    simp only [List.length_cons] at h0
    cases b with
    | nil =>
      simp only [dotW]
      omega
    | cons y b =>
      have hx := ha x (List.mem_cons_self ..)
      have hy := hb y (List.mem_cons_self ..)
      have hm := mul_bd (A := 1000000000) (B := 100000) (by omega) (by omega) hx hy
      obtain ⟨z, hz⟩ : ∃ z, x * y = z := ⟨_, rfl⟩
      rw [hz] at hm
      have e1 : wrap64 z = z := wrap64_ok (by omega) (by omega)
      have e2 : wrap64 (q + z) = q + z := wrap64_ok (by omega) (by omega)
      simp only [dotW, hz, e1, e2]
      exact ih b (q + z) (fun u hu => ha u (List.mem_cons_of_mem _ hu)) (fun u hu => hb u (List.mem_cons_of_mem _ hu)) (B + 100000000000000) (by omega) (by omega) (by omega) (by omega)

/-- what is known of a good access -/
theorem goodB_true {k b e : Int} {s : List Int} {st sp md : Int} (h : goodB k b e s st sp md = true) :
    s.length ≤ 16 ∧ (∀ x ∈ s, -1000000000 ≤ x ∧ x ≤ 1000000000) ∧ (-1000000000 ≤ b ∧ b ≤ 1000000000) ∧ (-1000000000 ≤ e ∧ e ≤ 1000000000) ∧ (-1000000000 ≤ st ∧ st ≤ 1000000000) ∧ (-1000000000 ≤ sp ∧ sp ≤ 1000000000) ∧ (-1000000000 ≤ md ∧ md ≤ 1000000000) ∧ kindB k b e s st sp md = true := by
  unfold goodB rightB at h
  simp only [Bool.and_eq_true] at h
  obtain ⟨⟨h1, -, -, h2⟩, h3⟩ := h
  unfold bndB at h3
  simp only [Bool.and_eq_true] at h3
  obtain ⟨h4, h5, h6, h7, h8, h9⟩ := h3
  exact ⟨of_decide_eq_true h1, fun x hx => nearB_true (List.all_eq_true.1 h4 x hx), nearB_true h5, nearB_true h6, nearB_true h7, nearB_true h8, nearB_true h9, h2⟩
theorem insideB_true {k : Int} {s ix : List Int} (h : insideB k s ix = true) : (∀ y ∈ ix, -100000 ≤ y ∧ y ≤ 100000) ∧ (ix.length = s.length ∨ k = 1) := by
  unfold insideB at h
  simp only [Bool.and_eq_true, Bool.or_eq_true] at h
  obtain ⟨h1, h2⟩ := h
  refine ⟨fun y hy => nearB_true (List.all_eq_true.1 h1 y hy), ?_⟩
  rcases h2 with h2 | ⟨h2, -⟩
  · exact .inl (of_decide_eq_true h2)
  · exact .inr (by simpa using h2)

theorem AccAt_d (b : Int) (p : Option Addr) (c : Nat) (s : List Int) (q : Option Addr) (d : Nat) (ix : List Int) (D : Int) (hD : dotW s ix 0 = D) (n : Nat) (hn : s.length = n) (w : World) (h : Ints w p s) (h' : Ints w q ix) (hl : s.length ≤ 1000000) (hd : -1000000000000000000 ≤ D ∧ D ≤ 1000000000000000000) :
    Calls Try.prog 67 #[.agg #[.int .i64 2, .int .i64 b, .int .i64 0, .slice p n c, .int .i64 0, .int .i64 0, .int .i64 0], .slice q ix.length d] w fun e' w' => e' = .returned (.tuple #[.int .i64 D, .bool true]) ∧ Below w.heap.size w w' := by
  subst hn
  have := AccAt_2 b 0 p c s 0 0 0 q d ix D hD w h h' hl (by omega) (by omega) hd
  rw [Int.zero_add] at this
  exact this

theorem good_is (k b e : Int) (p : Option Addr) (c : Nat) (s : List Int) (st sp md : Int) (x : Bool) (hx : goodB k b e s st sp md = x) (w : World) (h : Ints w p s) :
    Calls Try.prog 65 #[.agg #[.int .i64 k, .int .i64 b, .int .i64 e, .slice p s.length c, .int .i64 st, .int .i64 sp, .int .i64 md]] w fun e' w' => e' = .returned (.bool x) ∧ Below w.heap.size w w' := hx ▸ good_any k b e p c s st sp md w h

set_option maxRecDepth 100000 in
set_option maxHeartbeats 4000000 in
theorem AccessReads_no (k b e : Int) (p : Option Addr) (c : Nat) (s : List Int) (st sp md : Int) (q : Option Addr) (d : Nat) (ix : List Int) (r : Option Addr) (cr : Nat) (t : List Int) (w : World) (h : Ints w p s) (h' : Ints w q ix) (h'' : Ints w r t) (hg : goodB k b e s st sp md = true) (hin : insideB k s ix = true) (hz : shapeS t = 0) (n : Int) (ok : Bool)
    (HA : Hid (∀ W, Ints W p s → Ints W q ix → Calls Try.prog 67 #[.agg #[.int .i64 k, .int .i64 b, .int .i64 e, .slice p s.length c, .int .i64 st, .int .i64 sp, .int .i64 md], .slice q ix.length d] W fun e' w' => e' = .returned (.tuple #[.int .i64 n, .bool ok]) ∧ Below W.heap.size W w'))
    (HB : Hid (∀ W, Ints W p s → Ints W q ix → Calls Try.prog 68 #[.agg #[.int .i64 k, .int .i64 b, .int .i64 e, .slice p s.length c, .int .i64 st, .int .i64 sp, .int .i64 md], .slice q ix.length d] W fun e' w' => e' = .returned (.tuple #[.int .i64 n, .bool ok]) ∧ Below W.heap.size W w')) (hv : decide (Valid t ix) = false) :
    Calls Try.prog 16 #[.agg #[.int .i64 k, .int .i64 b, .int .i64 e, .slice p s.length c, .int .i64 st, .int .i64 sp, .int .i64 md], .slice q ix.length d, .slice r t.length cr] w fun e' w' => e' = .returned (.bool true) ∧ Below w.heap.size w w' := by
  have Hg := Lib.hid hg
  have Hin := Lib.hid hin
  have Hz := Lib.hid hz
  have hnn : (n != n) = false := by simp
  have hoo : (ok != ok) = false := by cases ok <;> rfl
  have hsl : (strideS t).length ≤ 9223372036854775807 := by
    have h1 := (shapeS_zero.1 hz).len
    unfold strideS
    split <;> (try split) <;> (try rw [strs_len]) <;> simp <;> omega
  clear hg hin hz
  go_enter Try.func16, Try.ntmps16
  go_wp2_with fail
  refine (awake17 _).mono ?_
  rintro e1 w1 ⟨rfl, hb1⟩
  have A := (At7.new w _ k b e (.slice p s.length c) st sp md 89 rfl).keep hb1
  have hb := below_1 hb1
  clear hb1
  have hA0 := A.c0
  have hA1 := A.c1
  have hA2 := A.c2
  have hA3 := A.c3
  have hA4 := A.c4
  have hA5 := A.c5
  have hA6 := A.c6
  go_wp2_with fail
  refine (good_is k b e p c s st sp md true Hg.out _ (h.keep hb)).mono ?_
  rintro e2 w2 ⟨rfl, hb2⟩
  clear hA0
  clear hA1
  clear hA2
  clear hA3
  clear hA4
  clear hA5
  clear hA6
  have A := A.keep hb2
  have hb := below_t hb hb2
  clear hb2
  have hA0 := A.c0
  have hA1 := A.c1
  have hA2 := A.c2
  have hA3 := A.c3
  have hA4 := A.c4
  have hA5 := A.c5
  have hA6 := A.c6
  go_wp2_with fail
  refine (Inside_is k b e p c s st sp md q d ix true Hin.out _ (h.keep hb) (h'.keep hb)).mono ?_
  rintro e3 w3 ⟨rfl, hb3⟩
  clear hA0
  clear hA1
  clear hA2
  clear hA3
  clear hA4
  clear hA5
  clear hA6
  have A := A.keep hb3
  have hb := below_t hb hb3
  clear hb3
  go_wp2_with fail
  refine (RefCheck_is t 0 Hz.out _ _ _ (h''.keep hb)).mono ?_
  rintro e w' ⟨rfl, rfl⟩
  have hA0 := A.c0
  have hA1 := A.c1
  have hA2 := A.c2
  have hA3 := A.c3
  have hA4 := A.c4
  have hA5 := A.c5
  have hA6 := A.c6
  go_wp2_with fail
  refine (HA.out _ (h.keep hb) (h'.keep hb)).mono ?_
  rintro e4 w4a ⟨rfl, hb4⟩
  clear hA0
  clear hA1
  clear hA2
  clear hA3
  clear hA4
  clear hA5
  clear hA6
  have A := A.keep hb4
  have hb := below_t hb hb4
  clear hb4
  have hA0 := A.c0
  have hA1 := A.c1
  have hA2 := A.c2
  have hA3 := A.c3
  have hA4 := A.c4
  have hA5 := A.c5
  have hA6 := A.c6
  go_wp2_with fail
  refine (HB.out _ (h.keep hb) (h'.keep hb)).mono ?_
  rintro e5 w4 ⟨rfl, hb5⟩
  clear hA0
  clear hA1
  clear hA2
  clear hA3
  clear hA4
  clear hA5
  clear hA6
  have hb := below_t hb hb5
  clear hb5
  go_wp2_with fail
  refine (Direct_any 3 r cr t _ (h''.keep hb)).mono ?_
  rintro e5 w5 ⟨⟨pd, cd, rfl, hnd⟩, hb6⟩
  have id0 := hnd.ints (strideS_i64 t) hsl
  have hb := below_t hb hb6
  clear hb6
  clear hnd
  have hba := below_alloc w5 (.cells #[.int .i64 2, .int .i64 3, .int .i64 0, .slice pd (strideS t).length cd, .int .i64 0, .int .i64 0, .int .i64 0] 93)
  have D := At7.new w5 _ 2 3 0 (.slice pd (strideS t).length cd) 0 0 0 93 rfl
  have id0 := id0.keep hba
  have hb := below_t hb hba
  clear hba
  go_wp2_with fail
  have hKS : Keeps (fun w' => (w5.heap.size < w'.heap.size ∧ w'.cell? ⟨w5.heap.size, 0, none⟩ = some (.int .i64 2) ∧ w'.cell? ⟨w5.heap.size, 1, none⟩ = some (.int .i64 3) ∧ w'.cell? ⟨w5.heap.size, 2, none⟩ = some (.int .i64 0) ∧ w'.cell? ⟨w5.heap.size, 3, none⟩ = some (.slice pd (strideS t).length cd) ∧ w'.cell? ⟨w5.heap.size, 4, none⟩ = some (.int .i64 0) ∧ w'.cell? ⟨w5.heap.size, 5, none⟩ = some (.int .i64 0) ∧ w'.cell? ⟨w5.heap.size, 6, none⟩ = some (.int .i64 0)) ∧ Ints w' pd (strideS t) ∧ Ints w' r t ∧ Ints w' q ix ∧ Below w.heap.size w w') := (keeps_at7 _ _ _ _ _ _ _ _).and ((keeps_ints _ _).and ((keeps_ints _ _).and ((keeps_ints _ _).and (keeps_below _))))
  have hS := hKS _ _ ⟨⟨D.lt, D.c0, D.c1, D.c2, D.c3, D.c4, D.c5, D.c6⟩, id0, h''.keep hb, h'.keep hb, hb⟩ (Below.refl _ _)
  clear A D id0 hb
  refine wp_region_noPanic ?_
  refine wp_region_held_drew (S := (fun w' => (w5.heap.size < w'.heap.size ∧ w'.cell? ⟨w5.heap.size, 0, none⟩ = some (.int .i64 2) ∧ w'.cell? ⟨w5.heap.size, 1, none⟩ = some (.int .i64 3) ∧ w'.cell? ⟨w5.heap.size, 2, none⟩ = some (.int .i64 0) ∧ w'.cell? ⟨w5.heap.size, 3, none⟩ = some (.slice pd (strideS t).length cd) ∧ w'.cell? ⟨w5.heap.size, 4, none⟩ = some (.int .i64 0) ∧ w'.cell? ⟨w5.heap.size, 5, none⟩ = some (.int .i64 0) ∧ w'.cell? ⟨w5.heap.size, 6, none⟩ = some (.int .i64 0)) ∧ Ints w' pd (strideS t) ∧ Ints w' r t ∧ Ints w' q ix ∧ Below w.heap.size w w')) (by kernel_rfl) ?_ (fun hHeld => ?_)
  · (try dsimp only); exact hKS _ _ (by first | exact hHeld | exact hS) (by first | assumption | (go_grown; done) | (refine from_drew ?_; go_grown; done))
  refine takeH 0 (some 47) (v := ?_) rfl rfl (by kernel_rfl) (by kernel_rfl) (by kernel_rfl) (by rfl) ?_ (by exact hHeld) ?_
  rotate_left
  · intro w hSw; (try dsimp only at hSw); go_simp; try (with_reducible rfl)
  try simp only [Act.put, List.setIfInBounds_toArray, List.set_cons_zero, List.set_cons_succ]
  refine takeH 1 (some 48) (v := ?_) rfl rfl (by kernel_rfl) (by kernel_rfl) (by kernel_rfl) (by rfl) ?_ (by exact hHeld) ?_
  rotate_left
  · intro w hSw; (try dsimp only at hSw); go_simp; try (with_reducible rfl)
  try simp only [Act.put, List.setIfInBounds_toArray, List.set_cons_zero, List.set_cons_succ]
  refine takeH 2 (some 49) (v := ?_) rfl rfl (by kernel_rfl) (by kernel_rfl) (by kernel_rfl) (by rfl) ?_ (by exact hHeld) ?_
  rotate_left
  · intro w hSw; (try dsimp only at hSw); go_simp; try (with_reducible rfl)
  try simp only [Act.put, List.setIfInBounds_toArray, List.set_cons_zero, List.set_cons_succ]
  refine takeH 3 (some 50) (v := ?_) rfl rfl (by kernel_rfl) (by kernel_rfl) (by kernel_rfl) (by rfl) ?_ (by exact hHeld) ?_
  rotate_left
  · intro w hSw; (try dsimp only at hSw); go_simp; try (with_reducible rfl)
  try simp only [Act.put, List.setIfInBounds_toArray, List.set_cons_zero, List.set_cons_succ]
  refine takeH 4 (some 51) (v := ?_) rfl rfl (by kernel_rfl) (by kernel_rfl) (by kernel_rfl) (by rfl) ?_ (by exact hHeld) ?_
  rotate_left
  · intro w hSw; (try dsimp only at hSw); go_simp; try (with_reducible rfl)
  try simp only [Act.put, List.setIfInBounds_toArray, List.set_cons_zero, List.set_cons_succ]
  refine takeH 5 (some 52) (v := ?_) rfl rfl (by kernel_rfl) (by kernel_rfl) (by kernel_rfl) (by rfl) ?_ (by exact hHeld) ?_
  rotate_left
  · intro w hSw; (try dsimp only at hSw); go_simp; try (with_reducible rfl)
  try simp only [Act.put, List.setIfInBounds_toArray, List.set_cons_zero, List.set_cons_succ]
  refine takeH 6 (some 53) (v := ?_) rfl rfl (by kernel_rfl) (by kernel_rfl) (by kernel_rfl) (by rfl) ?_ (by exact hHeld) ?_
  rotate_left
  · intro w hSw; (try dsimp only at hSw); go_simp; try (with_reducible rfl)
  try simp only [Act.put, List.setIfInBounds_toArray, List.set_cons_zero, List.set_cons_succ]
  refine takeH 7 (some 54) (v := ?_) rfl rfl (by kernel_rfl) (by kernel_rfl) (by kernel_rfl) (by rfl) ?_ (by exact hHeld) ?_
  rotate_left
  · intro w hSw; (try dsimp only at hSw); go_simp; try (with_reducible rfl)
  try simp only [Act.put, List.setIfInBounds_toArray, List.set_cons_zero, List.set_cons_succ]
  refine takeH 8 (some 55) (v := ?_) rfl rfl (by kernel_rfl) (by kernel_rfl) (by kernel_rfl) (by rfl) ?_ (by exact hHeld) ?_
  rotate_left
  · intro w hSw; (try dsimp only at hSw); go_simp; try (with_reducible rfl)
  try simp only [Act.put, List.setIfInBounds_toArray, List.set_cons_zero, List.set_cons_succ]
  refine takeH 9 (some 56) (v := ?_) rfl rfl (by kernel_rfl) (by kernel_rfl) (by kernel_rfl) (by rfl) ?_ (by exact hHeld) ?_
  rotate_left
  · intro w hSw; (try dsimp only at hSw); go_simp; try (with_reducible rfl)
  try simp only [Act.put, List.setIfInBounds_toArray, List.set_cons_zero, List.set_cons_succ]
  refine takeH 10 (some 57) (v := ?_) rfl rfl (by kernel_rfl) (by kernel_rfl) (by kernel_rfl) (by rfl) ?_ (by exact hHeld) ?_
  rotate_left
  · intro w hSw; (try dsimp only at hSw); go_simp; try (with_reducible rfl)
  try simp only [Act.put, List.setIfInBounds_toArray, List.set_cons_zero, List.set_cons_succ]
  refine wpAnyH_ready (rs := [11]) (by kernel_rfl) (by simp) ?_
  refine stepH 11 rfl (by rfl) (fun K hK => ?_) ?_
  · go_simp
    ((with_reducible refine (RDirect_any 3 r cr t _ ?_).mono ?_); (go_split_ands; assumption); rintro e6 w6 ⟨⟨pf, cf, rfl, hnf⟩, hb6⟩; have hif := hnf.ints (strideS_i64 t) hsl)
    refine hK.out _ _ ?_ (fun hNew => ?_)
    · (try dsimp only); exact hKS _ _ (by first | exact hHeld | exact hS) (by first | assumption | (go_grown; done) | (refine from_drew ?_; go_grown; done))
    clear hK K hHeld
    have hHeld := hNew
    clear hNew
    try dsimp only at hHeld
    try simp only [Act.put, List.setIfInBounds_toArray, List.set_cons_zero, List.set_cons_succ]
    refine wpAnyH_ready (rs := [12]) (by kernel_rfl) (by simp) ?_
    refine stepH 12 rfl (by rfl) (fun K hK => ?_) ?_
    · go_simp
      ((with_reducible refine (RSame_yes 2 3 0 pd cd (strideS t) 0 0 0 pf cf _ ?_ ?_).mono ?_); (go_split_ands; assumption); (exact hif); rintro e7 w7 ⟨rfl, hb7⟩)
      refine hK.out _ _ ?_ (fun hNew => ?_)
      · (try dsimp only); exact hKS _ _ (by first | exact hHeld | exact hS) (by first | assumption | (go_grown; done) | (refine from_drew ?_; go_grown; done))
      clear hK K hHeld
      have hHeld := hNew
      clear hNew
      try dsimp only at hHeld
      try simp only [Act.put, List.setIfInBounds_toArray, List.set_cons_zero, List.set_cons_succ]
      refine takeH 13 (some 60) (v := ?_) rfl rfl (by kernel_rfl) (by kernel_rfl) (by kernel_rfl) (by rfl) ?_ (by exact hHeld) ?_
      rotate_left
      · intro w hSw; (try dsimp only at hSw); go_simp; try (with_reducible rfl)
      try simp only [Act.put, List.setIfInBounds_toArray, List.set_cons_zero, List.set_cons_succ]
      refine takeH 14 (some 61) (v := ?_) rfl rfl (by kernel_rfl) (by kernel_rfl) (by kernel_rfl) (by rfl) ?_ (by exact hHeld) ?_
      rotate_left
      · intro w hSw; (try dsimp only at hSw); go_simp; try (with_reducible rfl)
      try simp only [Act.put, List.setIfInBounds_toArray, List.set_cons_zero, List.set_cons_succ]
      refine wpAnyH_done (by kernel_rfl) ?_ _
      refine NoPanic.normal ?_
      obtain ⟨⟨d9, d0, d1, d2, d3, d4, d5, d6⟩, id', ir, iq, hbw⟩ := hHeld
      go_wp2_with fail
      refine (RefValid_is t ix false hv _ _ _ _ _ ir iq).mono ?_
      rintro e8 w8 ⟨rfl, hb8⟩
      go_wp2_with fail
      go_ret
      exact ⟨rfl, below_t hbw hb8⟩
    exact AllReadyH.nil
  exact AllReadyH.nil

set_option maxRecDepth 100000 in
set_option maxHeartbeats 4000000 in
theorem AccessReads_yes (k b e : Int) (p : Option Addr) (c : Nat) (s : List Int) (st sp md : Int) (q : Option Addr) (d : Nat) (ix : List Int) (r : Option Addr) (cr : Nat) (t : List Int) (w : World) (h : Ints w p s) (h' : Ints w q ix) (h'' : Ints w r t) (hg : goodB k b e s st sp md = true) (hin : insideB k s ix = true) (hz : shapeS t = 0) (n : Int) (ok : Bool)
    (HA : Hid (∀ W, Ints W p s → Ints W q ix → Calls Try.prog 67 #[.agg #[.int .i64 k, .int .i64 b, .int .i64 e, .slice p s.length c, .int .i64 st, .int .i64 sp, .int .i64 md], .slice q ix.length d] W fun e' w' => e' = .returned (.tuple #[.int .i64 n, .bool ok]) ∧ Below W.heap.size W w'))
    (HB : Hid (∀ W, Ints W p s → Ints W q ix → Calls Try.prog 68 #[.agg #[.int .i64 k, .int .i64 b, .int .i64 e, .slice p s.length c, .int .i64 st, .int .i64 sp, .int .i64 md], .slice q ix.length d] W fun e' w' => e' = .returned (.tuple #[.int .i64 n, .bool ok]) ∧ Below W.heap.size W w')) (o : Int) (hv : decide (Valid t ix) = true) (ho : dotW (strideS t) ix 0 = o) (hro : roffS t ix = o) (hob : 0 ≤ o ∧ o ≤ 65536) (hsl2 : (strideS t).length ≤ 1000000) :
    Calls Try.prog 16 #[.agg #[.int .i64 k, .int .i64 b, .int .i64 e, .slice p s.length c, .int .i64 st, .int .i64 sp, .int .i64 md], .slice q ix.length d, .slice r t.length cr] w fun e' w' => e' = .returned (.bool true) ∧ Below w.heap.size w w' := by
  have Hg := Lib.hid hg
  have Hin := Lib.hid hin
  have Hz := Lib.hid hz
  have hnn : (n != n) = false := by simp
  have hoo : (ok != ok) = false := by cases ok <;> rfl
  have hsl : (strideS t).length ≤ 9223372036854775807 := by
    have h1 := (shapeS_zero.1 hz).len
    unfold strideS
    split <;> (try split) <;> (try rw [strs_len]) <;> simp <;> omega
  have Hv := Lib.hid hv
  clear hg hin hz
  go_enter Try.func16, Try.ntmps16
  go_wp2_with fail
  refine (awake17 _).mono ?_
  rintro e1 w1 ⟨rfl, hb1⟩
  have A := (At7.new w _ k b e (.slice p s.length c) st sp md 89 rfl).keep hb1
  have hb := below_1 hb1
  clear hb1
  have hA0 := A.c0
  have hA1 := A.c1
  have hA2 := A.c2
  have hA3 := A.c3
  have hA4 := A.c4
  have hA5 := A.c5
  have hA6 := A.c6
  go_wp2_with fail
  refine (good_is k b e p c s st sp md true Hg.out _ (h.keep hb)).mono ?_
  rintro e2 w2 ⟨rfl, hb2⟩
  clear hA0
  clear hA1
  clear hA2
  clear hA3
  clear hA4
  clear hA5
  clear hA6
  have A := A.keep hb2
  have hb := below_t hb hb2
  clear hb2
  have hA0 := A.c0
  have hA1 := A.c1
  have hA2 := A.c2
  have hA3 := A.c3
  have hA4 := A.c4
  have hA5 := A.c5
  have hA6 := A.c6
  go_wp2_with fail
  refine (Inside_is k b e p c s st sp md q d ix true Hin.out _ (h.keep hb) (h'.keep hb)).mono ?_
  rintro e3 w3 ⟨rfl, hb3⟩
  clear hA0
  clear hA1
  clear hA2
  clear hA3
  clear hA4
  clear hA5
  clear hA6
  have A := A.keep hb3
  have hb := below_t hb hb3
  clear hb3
  go_wp2_with fail
  refine (RefCheck_is t 0 Hz.out _ _ _ (h''.keep hb)).mono ?_
  rintro e w' ⟨rfl, rfl⟩
  have hA0 := A.c0
  have hA1 := A.c1
  have hA2 := A.c2
  have hA3 := A.c3
  have hA4 := A.c4
  have hA5 := A.c5
  have hA6 := A.c6
  go_wp2_with fail
  refine (HA.out _ (h.keep hb) (h'.keep hb)).mono ?_
  rintro e4 w4a ⟨rfl, hb4⟩
  clear hA0
  clear hA1
  clear hA2
  clear hA3
  clear hA4
  clear hA5
  clear hA6
  have A := A.keep hb4
  have hb := below_t hb hb4
  clear hb4
  have hA0 := A.c0
  have hA1 := A.c1
  have hA2 := A.c2
  have hA3 := A.c3
  have hA4 := A.c4
  have hA5 := A.c5
  have hA6 := A.c6
  go_wp2_with fail
  refine (HB.out _ (h.keep hb) (h'.keep hb)).mono ?_
  rintro e5 w4 ⟨rfl, hb5⟩
  clear hA0
  clear hA1
  clear hA2
  clear hA3
  clear hA4
  clear hA5
  clear hA6
  have hb := below_t hb hb5
  clear hb5
  go_wp2_with fail
  refine (Direct_any 3 r cr t _ (h''.keep hb)).mono ?_
  rintro e5 w5 ⟨⟨pd, cd, rfl, hnd⟩, hb6⟩
  have id0 := hnd.ints (strideS_i64 t) hsl
  have hb := below_t hb hb6
  clear hb6
  clear hnd
  have hba := below_alloc w5 (.cells #[.int .i64 2, .int .i64 3, .int .i64 0, .slice pd (strideS t).length cd, .int .i64 0, .int .i64 0, .int .i64 0] 93)
  have D := At7.new w5 _ 2 3 0 (.slice pd (strideS t).length cd) 0 0 0 93 rfl
  have id0 := id0.keep hba
  have hb := below_t hb hba
  clear hba
  go_wp2_with fail
  have hKS : Keeps (fun w' => (w5.heap.size < w'.heap.size ∧ w'.cell? ⟨w5.heap.size, 0, none⟩ = some (.int .i64 2) ∧ w'.cell? ⟨w5.heap.size, 1, none⟩ = some (.int .i64 3) ∧ w'.cell? ⟨w5.heap.size, 2, none⟩ = some (.int .i64 0) ∧ w'.cell? ⟨w5.heap.size, 3, none⟩ = some (.slice pd (strideS t).length cd) ∧ w'.cell? ⟨w5.heap.size, 4, none⟩ = some (.int .i64 0) ∧ w'.cell? ⟨w5.heap.size, 5, none⟩ = some (.int .i64 0) ∧ w'.cell? ⟨w5.heap.size, 6, none⟩ = some (.int .i64 0)) ∧ Ints w' pd (strideS t) ∧ Ints w' r t ∧ Ints w' q ix ∧ Below w.heap.size w w') := (keeps_at7 _ _ _ _ _ _ _ _).and ((keeps_ints _ _).and ((keeps_ints _ _).and ((keeps_ints _ _).and (keeps_below _))))
  have hS := hKS _ _ ⟨⟨D.lt, D.c0, D.c1, D.c2, D.c3, D.c4, D.c5, D.c6⟩, id0, h''.keep hb, h'.keep hb, hb⟩ (Below.refl _ _)
  clear A D id0 hb
  refine wp_region_noPanic ?_
  refine wp_region_held_drew (S := (fun w' => (w5.heap.size < w'.heap.size ∧ w'.cell? ⟨w5.heap.size, 0, none⟩ = some (.int .i64 2) ∧ w'.cell? ⟨w5.heap.size, 1, none⟩ = some (.int .i64 3) ∧ w'.cell? ⟨w5.heap.size, 2, none⟩ = some (.int .i64 0) ∧ w'.cell? ⟨w5.heap.size, 3, none⟩ = some (.slice pd (strideS t).length cd) ∧ w'.cell? ⟨w5.heap.size, 4, none⟩ = some (.int .i64 0) ∧ w'.cell? ⟨w5.heap.size, 5, none⟩ = some (.int .i64 0) ∧ w'.cell? ⟨w5.heap.size, 6, none⟩ = some (.int .i64 0)) ∧ Ints w' pd (strideS t) ∧ Ints w' r t ∧ Ints w' q ix ∧ Below w.heap.size w w')) (by kernel_rfl) ?_ (fun hHeld => ?_)
  · (try dsimp only); exact hKS _ _ (by first | exact hHeld | exact hS) (by first | assumption | (go_grown; done) | (refine from_drew ?_; go_grown; done))
  refine takeH 0 (some 47) (v := ?_) rfl rfl (by kernel_rfl) (by kernel_rfl) (by kernel_rfl) (by rfl) ?_ (by exact hHeld) ?_
  rotate_left
  · intro w hSw; (try dsimp only at hSw); go_simp; try (with_reducible rfl)
  try simp only [Act.put, List.setIfInBounds_toArray, List.set_cons_zero, List.set_cons_succ]
  refine takeH 1 (some 48) (v := ?_) rfl rfl (by kernel_rfl) (by kernel_rfl) (by kernel_rfl) (by rfl) ?_ (by exact hHeld) ?_
  rotate_left
  · intro w hSw; (try dsimp only at hSw); go_simp; try (with_reducible rfl)
  try simp only [Act.put, List.setIfInBounds_toArray, List.set_cons_zero, List.set_cons_succ]
  refine takeH 2 (some 49) (v := ?_) rfl rfl (by kernel_rfl) (by kernel_rfl) (by kernel_rfl) (by rfl) ?_ (by exact hHeld) ?_
  rotate_left
  · intro w hSw; (try dsimp only at hSw); go_simp; try (with_reducible rfl)
  try simp only [Act.put, List.setIfInBounds_toArray, List.set_cons_zero, List.set_cons_succ]
  refine takeH 3 (some 50) (v := ?_) rfl rfl (by kernel_rfl) (by kernel_rfl) (by kernel_rfl) (by rfl) ?_ (by exact hHeld) ?_
  rotate_left
  · intro w hSw; (try dsimp only at hSw); go_simp; try (with_reducible rfl)
  try simp only [Act.put, List.setIfInBounds_toArray, List.set_cons_zero, List.set_cons_succ]
  refine takeH 4 (some 51) (v := ?_) rfl rfl (by kernel_rfl) (by kernel_rfl) (by kernel_rfl) (by rfl) ?_ (by exact hHeld) ?_
  rotate_left
  · intro w hSw; (try dsimp only at hSw); go_simp; try (with_reducible rfl)
  try simp only [Act.put, List.setIfInBounds_toArray, List.set_cons_zero, List.set_cons_succ]
  refine takeH 5 (some 52) (v := ?_) rfl rfl (by kernel_rfl) (by kernel_rfl) (by kernel_rfl) (by rfl) ?_ (by exact hHeld) ?_
  rotate_left
  · intro w hSw; (try dsimp only at hSw); go_simp; try (with_reducible rfl)
  try simp only [Act.put, List.setIfInBounds_toArray, List.set_cons_zero, List.set_cons_succ]
  refine takeH 6 (some 53) (v := ?_) rfl rfl (by kernel_rfl) (by kernel_rfl) (by kernel_rfl) (by rfl) ?_ (by exact hHeld) ?_
  rotate_left
  · intro w hSw; (try dsimp only at hSw); go_simp; try (with_reducible rfl)
  try simp only [Act.put, List.setIfInBounds_toArray, List.set_cons_zero, List.set_cons_succ]
  refine takeH 7 (some 54) (v := ?_) rfl rfl (by kernel_rfl) (by kernel_rfl) (by kernel_rfl) (by rfl) ?_ (by exact hHeld) ?_
  rotate_left
  · intro w hSw; (try dsimp only at hSw); go_simp; try (with_reducible rfl)
  try simp only [Act.put, List.setIfInBounds_toArray, List.set_cons_zero, List.set_cons_succ]
  refine takeH 8 (some 55) (v := ?_) rfl rfl (by kernel_rfl) (by kernel_rfl) (by kernel_rfl) (by rfl) ?_ (by exact hHeld) ?_
  rotate_left
  · intro w hSw; (try dsimp only at hSw); go_simp; try (with_reducible rfl)
  try simp only [Act.put, List.setIfInBounds_toArray, List.set_cons_zero, List.set_cons_succ]
  refine takeH 9 (some 56) (v := ?_) rfl rfl (by kernel_rfl) (by kernel_rfl) (by kernel_rfl) (by rfl) ?_ (by exact hHeld) ?_
  rotate_left
  · intro w hSw; (try dsimp only at hSw); go_simp; try (with_reducible rfl)
  try simp only [Act.put, List.setIfInBounds_toArray, List.set_cons_zero, List.set_cons_succ]
  refine takeH 10 (some 57) (v := ?_) rfl rfl (by kernel_rfl) (by kernel_rfl) (by kernel_rfl) (by rfl) ?_ (by exact hHeld) ?_
  rotate_left
  · intro w hSw; (try dsimp only at hSw); go_simp; try (with_reducible rfl)
  try simp only [Act.put, List.setIfInBounds_toArray, List.set_cons_zero, List.set_cons_succ]
  refine wpAnyH_ready (rs := [11]) (by kernel_rfl) (by simp) ?_
  refine stepH 11 rfl (by rfl) (fun K hK => ?_) ?_
  · go_simp
    ((with_reducible refine (RDirect_any 3 r cr t _ ?_).mono ?_); (go_split_ands; assumption); rintro e6 w6 ⟨⟨pf, cf, rfl, hnf⟩, hb6⟩; have hif := hnf.ints (strideS_i64 t) hsl)
    refine hK.out _ _ ?_ (fun hNew => ?_)
    · (try dsimp only); exact hKS _ _ (by first | exact hHeld | exact hS) (by first | assumption | (go_grown; done) | (refine from_drew ?_; go_grown; done))
    clear hK K hHeld
    have hHeld := hNew
    clear hNew
    try dsimp only at hHeld
    try simp only [Act.put, List.setIfInBounds_toArray, List.set_cons_zero, List.set_cons_succ]
    refine wpAnyH_ready (rs := [12]) (by kernel_rfl) (by simp) ?_
    refine stepH 12 rfl (by rfl) (fun K hK => ?_) ?_
    · go_simp
      ((with_reducible refine (RSame_yes 2 3 0 pd cd (strideS t) 0 0 0 pf cf _ ?_ ?_).mono ?_); (go_split_ands; assumption); (exact hif); rintro e7 w7 ⟨rfl, hb7⟩)
      refine hK.out _ _ ?_ (fun hNew => ?_)
      · (try dsimp only); exact hKS _ _ (by first | exact hHeld | exact hS) (by first | assumption | (go_grown; done) | (refine from_drew ?_; go_grown; done))
      clear hK K hHeld
      have hHeld := hNew
      clear hNew
      try dsimp only at hHeld
      try simp only [Act.put, List.setIfInBounds_toArray, List.set_cons_zero, List.set_cons_succ]
      refine takeH 13 (some 60) (v := ?_) rfl rfl (by kernel_rfl) (by kernel_rfl) (by kernel_rfl) (by rfl) ?_ (by exact hHeld) ?_
      rotate_left
      · intro w hSw; (try dsimp only at hSw); go_simp; try (with_reducible rfl)
      try simp only [Act.put, List.setIfInBounds_toArray, List.set_cons_zero, List.set_cons_succ]
      refine takeH 14 (some 61) (v := ?_) rfl rfl (by kernel_rfl) (by kernel_rfl) (by kernel_rfl) (by rfl) ?_ (by exact hHeld) ?_
      rotate_left
      · intro w hSw; (try dsimp only at hSw); go_simp; try (with_reducible rfl)
      try simp only [Act.put, List.setIfInBounds_toArray, List.set_cons_zero, List.set_cons_succ]
      refine wpAnyH_done (by kernel_rfl) ?_ _
      refine NoPanic.normal ?_
      obtain ⟨⟨d9, d0, d1, d2, d3, d4, d5, d6⟩, id', ir, iq, hbw⟩ := hHeld
      have Ho := Lib.hid ho
      have Hro := Lib.hid hro
      have hoe : (o == o) = true := by simp
      clear ho hro
      go_wp2_with fail
      refine (RefValid_is t ix true hv _ _ _ _ _ ir iq).mono ?_
      rintro e8 w8 ⟨rfl, hb8⟩
      have D8 := At7.keep ⟨d9, d0, d1, d2, d3, d4, d5, d6⟩ hb8
      have g0 := D8.c0
      have g1 := D8.c1
      have g2 := D8.c2
      have g3 := D8.c3
      have g4 := D8.c4
      have g5 := D8.c5
      have g6 := D8.c6
      go_wp2_with fail
      refine (AccAt_d 3 pd cd (strideS t) q d ix o Ho.out _ rfl _ (id'.keep hb8) (iq.keep hb8) hsl2 (by omega)).mono ?_
      rintro e9 w9 ⟨rfl, hb9⟩
      go_wp2_with fail
      refine (RefOffset_is t ix o Hro.out (shapeS_zero.1 Hz.out) _ _ _ _ _ (ir.keep (below_t hb8 hb9)) (iq.keep (below_t hb8 hb9))).mono ?_
      rintro e10 w10 ⟨rfl, hb10⟩
      go_wp2_with fail
      go_ret
      exact ⟨rfl, below_t (below_t (below_t hbw hb8) hb9) hb10⟩
    exact AllReadyH.nil
  exact AllReadyH.nil

theorem AccessReads_all (k b e : Int) (p : Option Addr) (c : Nat) (s : List Int) (st sp md : Int) (q : Option Addr) (d : Nat) (ix : List Int) (r : Option Addr) (cr : Nat) (t : List Int) (w : World) (h : Ints w p s) (h' : Ints w q ix) (h'' : Ints w r t) (hg : goodB k b e s st sp md = true) (hin : insideB k s ix = true) (hz : shapeS t = 0) (n : Int) (ok : Bool)
    (HA : Hid (∀ W, Ints W p s → Ints W q ix → Calls Try.prog 67 #[.agg #[.int .i64 k, .int .i64 b, .int .i64 e, .slice p s.length c, .int .i64 st, .int .i64 sp, .int .i64 md], .slice q ix.length d] W fun e' w' => e' = .returned (.tuple #[.int .i64 n, .bool ok]) ∧ Below W.heap.size W w'))
    (HB : Hid (∀ W, Ints W p s → Ints W q ix → Calls Try.prog 68 #[.agg #[.int .i64 k, .int .i64 b, .int .i64 e, .slice p s.length c, .int .i64 st, .int .i64 sp, .int .i64 md], .slice q ix.length d] W fun e' w' => e' = .returned (.tuple #[.int .i64 n, .bool ok]) ∧ Below W.heap.size W w')) :
    Calls Try.prog 16 #[.agg #[.int .i64 k, .int .i64 b, .int .i64 e, .slice p s.length c, .int .i64 st, .int .i64 sp, .int .i64 md], .slice q ix.length d, .slice r t.length cr] w fun e' w' => e' = .returned (.bool true) ∧ Below w.heap.size w w' := by
  have hS := shapeS_zero.1 hz
  have hlen := hS.len
  cases hv : decide (Valid t ix) with
  | false => exact AccessReads_no k b e p c s st sp md q d ix r cr t w h h' h'' hg hin hz n ok HA HB hv
  | true =>
    have hV := of_decide_eq_true hv
    obtain ⟨h1, h2, h3⟩ := dot_small hS hV
    have ho : dotW (strideS t) ix 0 = offS t ix := by rw [h2, h1]; exact (if_pos hV).symm
    have hb := off_bd t ix hV
    refine AccessReads_yes k b e p c s st sp md q d ix r cr t w h h' h'' hg hin hz n ok HA HB (offS t ix) hv ho (roffS_valid hV) ?_ (by rw [h2, strs_len]; omega)
    unfold offS
    rw [if_pos hV]
    omega

set_option maxHeartbeats 1000000 in
theorem AccessReads_law (k b e : Int) (p : Option Addr) (c : Nat) (s : List Int) (st sp md : Int) (q : Option Addr) (d : Nat) (ix : List Int) (r : Option Addr) (cr : Nat) (t : List Int) (w : World) (h : Ints w p s) (hk : I64 k) (hb : I64 b) (he : I64 e) (hst : I64 st) (hsp : I64 sp) (hmd : I64 md) (h' : Ints w q ix) (h'' : Ints w r t) :
    Calls Try.prog 16 #[.agg #[.int .i64 k, .int .i64 b, .int .i64 e, .slice p s.length c, .int .i64 st, .int .i64 sp, .int .i64 md], .slice q ix.length d, .slice r t.length cr] w fun e' w' => e' = .returned (.bool true) ∧ Below w.heap.size w w' := by
  cases hg : goodB k b e s st sp md with
  | false =>
    have Hg := Lib.hid hg
    clear hg
    go_enter Try.func16, Try.ntmps16
    go_wp2_with fail
    refine (awake17 _).mono ?_
    rintro e1 w1 ⟨rfl, hb1⟩
    have A := (At7.new w _ k b e (.slice p s.length c) st sp md 89 rfl).keep hb1
    have hb := below_1 hb1
    clear hb1
    have hA0 := A.c0
    have hA1 := A.c1
    have hA2 := A.c2
    have hA3 := A.c3
    have hA4 := A.c4
    have hA5 := A.c5
    have hA6 := A.c6
    go_wp2_with fail
    refine (good_is k b e p c s st sp md false Hg.out _ (h.keep hb)).mono ?_
    rintro e2 w2 ⟨rfl, hb2⟩
    clear hA0
    clear hA1
    clear hA2
    clear hA3
    clear hA4
    clear hA5
    clear hA6
    have A := A.keep hb2
    have hb := below_t hb hb2
    clear hb2
    go_wp2_with fail
    refine (awake17 _).mono ?_
    rintro e w' ⟨rfl, hb3⟩
    go_wp2_with fail
    go_ret
    exact ⟨rfl, below_t hb hb3⟩
  | true =>
    cases hin : insideB k s ix with
    | false =>
      have Hg := Lib.hid hg
      have Hin := Lib.hid hin
      clear hg hin
      go_enter Try.func16, Try.ntmps16
      go_wp2_with fail
      refine (awake17 _).mono ?_
      rintro e1 w1 ⟨rfl, hb1⟩
      have A := (At7.new w _ k b e (.slice p s.length c) st sp md 89 rfl).keep hb1
      have hb := below_1 hb1
      clear hb1
      have hA0 := A.c0
      have hA1 := A.c1
      have hA2 := A.c2
      have hA3 := A.c3
      have hA4 := A.c4
      have hA5 := A.c5
      have hA6 := A.c6
      go_wp2_with fail
      refine (good_is k b e p c s st sp md true Hg.out _ (h.keep hb)).mono ?_
      rintro e2 w2 ⟨rfl, hb2⟩
      clear hA0
      clear hA1
      clear hA2
      clear hA3
      clear hA4
      clear hA5
      clear hA6
      have A := A.keep hb2
      have hb := below_t hb hb2
      clear hb2
      have hA0 := A.c0
      have hA1 := A.c1
      have hA2 := A.c2
      have hA3 := A.c3
      have hA4 := A.c4
      have hA5 := A.c5
      have hA6 := A.c6
      go_wp2_with fail
      refine (Inside_is k b e p c s st sp md q d ix false Hin.out _ (h.keep hb) (h'.keep hb)).mono ?_
      rintro e3 w3 ⟨rfl, hb3⟩
      clear hA0
      clear hA1
      clear hA2
      clear hA3
      clear hA4
      clear hA5
      clear hA6
      have hb := below_t hb hb3
      clear hb3
      go_wp2_with fail
      refine (awake17 _).mono ?_
      rintro e w' ⟨rfl, hb4⟩
      go_wp2_with fail
      go_ret
      exact ⟨rfl, below_t hb hb4⟩
    | true =>
      by_cases hz : shapeS t = 0
      · obtain ⟨l1, l2, l3, l4, l5, l6, l7, l8⟩ := goodB_true hg
        obtain ⟨j1, j2⟩ := insideB_true hin
        have hd := dot_bd s ix 0 l2 j1 0 (by omega) (by omega) (by omega) (by omega)
        by_cases k1 : k = 1
        · subst k1
          exact AccessReads_all 1 b e p c s st sp md q d ix r cr t w h h' h'' hg hin hz 0 false
            (fun W a b' => AccAt_0 1 b e p c s st sp md q d ix _ rfl W a b' (by omega) (by omega) (by omega) (by omega) (by decide) (by decide))
            (fun W a b' => RAt_1 b e p c s st sp md q d ix _ rfl W a b' (by omega) (by omega) (by omega))
        · by_cases k2 : k = 2
          · subst k2
            exact AccessReads_all 2 b e p c s st sp md q d ix r cr t w h h' h'' hg hin hz (e + dotW s ix 0) true
              (fun W a b' => AccAt_2 b e p c s st sp md q d ix _ rfl W a b' (by omega) (by omega) (by omega) (by omega))
              (fun W a b' => RAt_2 b e p c s st sp md q d ix _ rfl W a b' (by omega) (by omega) (by omega))
          · have k3 : k = 3 := by
              by_cases k3 : k = 3
              · exact k3
              · simp [kindB, k1, k2, k3] at l8
            subst k3
            have hm : 0 < md := by simpa [kindB] using l8
            have hM0 := Int.emod_nonneg (st + dotW s ix 0) (show md ≠ 0 by omega)
            have hM1 := Int.emod_lt_of_pos (st + dotW s ix 0) hm
            have hX := mul_bd (A := 1000000000) (B := 1000000000) (by omega) (by omega) l6 (show -1000000000 ≤ (st + dotW s ix 0) % md ∧ (st + dotW s ix 0) % md ≤ 1000000000 by omega)
            refine AccessReads_all 3 b e p c s st sp md q d ix r cr t w h h' h'' hg hin hz (e + sp * ((st + dotW s ix 0) % md)) true
              (fun W a b' => AccAt_3 b e p c s st sp md q d ix _ rfl W a b' (by omega) (by omega) (by omega) (by omega) _ _ (by unfold modS; rw [if_neg (by omega)]) rfl (by omega) ⟨by omega, by omega⟩)
              (fun W a b' => ?_)
            by_cases hn : (st + dotW s ix 0).tmod md < 0
            · exact RAt_3n b e p c s st sp md q d ix _ rfl W a b' (by omega) (by omega) (by omega) _ _ hm (by omega) rfl rfl (by omega) hn
            · exact RAt_3p b e p c s st sp md q d ix _ rfl W a b' (by omega) (by omega) (by omega) _ _ hm (by omega) rfl rfl (by omega) hn
      · obtain ⟨z, hzz⟩ : ∃ z, shapeS t = z := ⟨_, rfl⟩
        rw [hzz] at hz
        have hzb : (z != 0) = true := by simp [hz]
        have Hg := Lib.hid hg
        have Hin := Lib.hid hin
        have Hz := Lib.hid hzz
        clear hg hin hz hzz
        go_enter Try.func16, Try.ntmps16
        go_wp2_with fail
        refine (awake17 _).mono ?_
        rintro e1 w1 ⟨rfl, hb1⟩
        have A := (At7.new w _ k b e (.slice p s.length c) st sp md 89 rfl).keep hb1
        have hb := below_1 hb1
        clear hb1
        have hA0 := A.c0
        have hA1 := A.c1
        have hA2 := A.c2
        have hA3 := A.c3
        have hA4 := A.c4
        have hA5 := A.c5
        have hA6 := A.c6
        go_wp2_with fail
        refine (good_is k b e p c s st sp md true Hg.out _ (h.keep hb)).mono ?_
        rintro e2 w2 ⟨rfl, hb2⟩
        clear hA0
        clear hA1
        clear hA2
        clear hA3
        clear hA4
        clear hA5
        clear hA6
        have A := A.keep hb2
        have hb := below_t hb hb2
        clear hb2
        have hA0 := A.c0
        have hA1 := A.c1
        have hA2 := A.c2
        have hA3 := A.c3
        have hA4 := A.c4
        have hA5 := A.c5
        have hA6 := A.c6
        go_wp2_with fail
        refine (Inside_is k b e p c s st sp md q d ix true Hin.out _ (h.keep hb) (h'.keep hb)).mono ?_
        rintro e3 w3 ⟨rfl, hb3⟩
        clear hA0
        clear hA1
        clear hA2
        clear hA3
        clear hA4
        clear hA5
        clear hA6
        have hb := below_t hb hb3
        clear hb3
        go_wp2_with fail
        refine (RefCheck_is t z Hz.out _ _ _ (h''.keep hb)).mono ?_
        rintro e w' ⟨rfl, rfl⟩
        go_wp2_with fail
        refine (awake17 _).mono ?_
        rintro e w' ⟨rfl, hb4⟩
        go_wp2_with fail
        go_ret
        exact ⟨rfl, below_t hb hb4⟩
end Go.Proofs.Ythkfjdhakbjllaa
