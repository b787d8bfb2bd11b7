/- env's copied. No condition beyond what it says. -/
import Derived.Test.YtolkgjbljdmadaaEnv3
namespace Go.Proofs.Ytolkgjbljdmadaa
open Go.RowKit Go.Shelf
set_option linter.unusedVariables false
set_option linter.unusedSimpArgs false

theorem own_three {w : World} {g : Nat} {e : TypeId} {a b c : Value} (h : Own w g e [a, b, c]) (x y z : Value) : Own (((w.setCell ⟨g, 0, none⟩ x).setCell ⟨g, 1, none⟩ y).setCell ⟨g, 2, none⟩ z) g e [x, y, z] :=
  ((h.set (i := 0) (by simp) x).set (i := 1) (by simp) y).set (i := 2) (by simp) z
theorem below_set {B : Nat} {w w' : World} (h : Below B w w') {g : Nat} (hg : B ≤ g) (i : Nat) (v : Value) : Below B w (w'.setCell ⟨g, i, none⟩ v) := h.setCell (p := ⟨g, i, none⟩) hg v

set_option maxRecDepth 100000 in
set_option maxHeartbeats 4000000 in
theorem copied_any (b : BV) (w : World) (h1 : Ints w b.sp b.s) (h2 : Ints w b.dp b.d) (hl1 : b.s.length ≤ 1000000) (hl2 : b.d.length ≤ 1000000) :
    Calls Try.prog 53 #[.agg #[.string b.name, .slice b.sp b.s.length b.sc, .slice b.dp b.d.length b.dc]] w fun e w' =>
      (∃ p c q f, e = .returned (.agg #[.string b.name, .slice p b.s.length c, .slice q b.d.length f]) ∧ New w.heap.size w' p 3 (b.s.map (.int .i64)) ∧ New w.heap.size w' q 2 (b.d.map (.int .i64))) ∧ Below w.heap.size w w' := by
  obtain ⟨W, hW⟩ : ∃ W, (w.alloc (.cells #[.string b.name, .slice b.sp b.s.length b.sc, .slice b.dp b.d.length b.dc] 62)).alloc (.cells #[.string ⟨#[]⟩, .slice none 0 0, .slice none 0 0] 62) = W := ⟨_, rfl⟩
  have hbA : Below w.heap.size w W := hW ▸ below_t (below_alloc _ _) (below_alloc _ _)
  have hO : Own W (w.heap.size + 1) 62 [.string ⟨#[]⟩, .slice none 0 0, .slice none 0 0] := by
    rw [← hW]; exact Own.made _ _ _ _ (by simp)
  have t0 : W.cell? ⟨w.heap.size, 0, none⟩ = some (.string b.name) := by rw [← hW]; simp [go_sem]
  have t1 : W.cell? ⟨w.heap.size, 1, none⟩ = some (.slice b.sp b.s.length b.sc) := by rw [← hW]; simp [go_sem]
  have t2 : W.cell? ⟨w.heap.size, 2, none⟩ = some (.slice b.dp b.d.length b.dc) := by rw [← hW]; simp [go_sem]
  have hlt : w.heap.size + 1 < W.heap.size := by rw [← hW]; simp
  have hKS : Keeps (fun w' => Below w.heap.size w w' ∧ (w'.cell? ⟨w.heap.size, 0, none⟩ = some (.string b.name) ∧ w'.cell? ⟨w.heap.size, 1, none⟩ = some (.slice b.sp b.s.length b.sc) ∧ w'.cell? ⟨w.heap.size, 2, none⟩ = some (.slice b.dp b.d.length b.dc)) ∧ w.heap.size + 1 < w'.heap.size ∧ ∃ u v x, Own w' (w.heap.size + 1) 62 [u, v, x]) := by
    rintro w1 w2 ⟨k1, ⟨k2, k3, k4⟩, k5, u, v, x, k6⟩ hb
    have hl : w.heap.size < w1.heap.size := by omega
    exact ⟨below_t k1 hb, ⟨(hb.cell (p := ⟨w.heap.size, 0, none⟩) hl).trans k2, (hb.cell (p := ⟨w.heap.size, 1, none⟩) hl).trans k3, (hb.cell (p := ⟨w.heap.size, 2, none⟩) hl).trans k4⟩, Nat.lt_of_lt_of_le k5 hb.size, u, v, x, k6.keep hb k5⟩
  have hKst : ∀ (w' : World) (x y z : Value), (Below w.heap.size w w' ∧ (w'.cell? ⟨w.heap.size, 0, none⟩ = some (.string b.name) ∧ w'.cell? ⟨w.heap.size, 1, none⟩ = some (.slice b.sp b.s.length b.sc) ∧ w'.cell? ⟨w.heap.size, 2, none⟩ = some (.slice b.dp b.d.length b.dc)) ∧ w.heap.size + 1 < w'.heap.size ∧ ∃ u v x, Own w' (w.heap.size + 1) 62 [u, v, x]) →
      (fun w' => Below w.heap.size w w' ∧ (w'.cell? ⟨w.heap.size, 0, none⟩ = some (.string b.name) ∧ w'.cell? ⟨w.heap.size, 1, none⟩ = some (.slice b.sp b.s.length b.sc) ∧ w'.cell? ⟨w.heap.size, 2, none⟩ = some (.slice b.dp b.d.length b.dc)) ∧ w.heap.size + 1 < w'.heap.size ∧ ∃ u v x, Own w' (w.heap.size + 1) 62 [u, v, x]) (((w'.setCell ⟨w.heap.size + 1, 0, none⟩ x).setCell ⟨w.heap.size + 1, 1, none⟩ y).setCell ⟨w.heap.size + 1, 2, none⟩ z) := by
    rintro w' x y z ⟨k1, ⟨k2, k3, k4⟩, k5, u, v, x', k6⟩
    have hle : w.heap.size ≤ w.heap.size + 1 := by omega
    have hbs : Below (w.heap.size + 1) w' (((w'.setCell ⟨w.heap.size + 1, 0, none⟩ x).setCell ⟨w.heap.size + 1, 1, none⟩ y).setCell ⟨w.heap.size + 1, 2, none⟩ z) := below_set (below_set (below_set (Below.refl _ _) (Nat.le_refl _) 0 x) (Nat.le_refl _) 1 y) (Nat.le_refl _) 2 z
    have hl : w.heap.size < w.heap.size + 1 := by omega
    exact ⟨below_set (below_set (below_set k1 hle 0 x) hle 1 y) hle 2 z, ⟨(hbs.cell (p := ⟨w.heap.size, 0, none⟩) hl).trans k2, (hbs.cell (p := ⟨w.heap.size, 1, none⟩) hl).trans k3, (hbs.cell (p := ⟨w.heap.size, 2, none⟩) hl).trans k4⟩, by simpa using k5, x, y, z, own_three k6 x y z⟩
  have hS : (fun w' => Below w.heap.size w w' ∧ (w'.cell? ⟨w.heap.size, 0, none⟩ = some (.string b.name) ∧ w'.cell? ⟨w.heap.size, 1, none⟩ = some (.slice b.sp b.s.length b.sc) ∧ w'.cell? ⟨w.heap.size, 2, none⟩ = some (.slice b.dp b.d.length b.dc)) ∧ w.heap.size + 1 < w'.heap.size ∧ ∃ u v x, Own w' (w.heap.size + 1) 62 [u, v, x]) W := ⟨hbA, ⟨t0, t1, t2⟩, hlt, _, _, _, hO⟩
  have HW := Lib.hid hW
  clear hW hO t0 t1 t2 hbA
  go_enter Try.func53, Try.ntmps53
  go_wp2_with fail
  rw [HW.out]
  refine wp_region_noPanic ?_
  refine wp_region_held_drew (S := (fun w' => Below w.heap.size w w' ∧ (w'.cell? ⟨w.heap.size, 0, none⟩ = some (.string b.name) ∧ w'.cell? ⟨w.heap.size, 1, none⟩ = some (.slice b.sp b.s.length b.sc) ∧ w'.cell? ⟨w.heap.size, 2, none⟩ = some (.slice b.dp b.d.length b.dc)) ∧ w.heap.size + 1 < w'.heap.size ∧ ∃ u v x, Own w' (w.heap.size + 1) 62 [u, v, x])) (by kernel_rfl) ?_ (fun hHeld => ?_)
  · (try dsimp only); first | exact hKS _ _ (by first | exact hHeld | exact hS) (by first | assumption | (go_grown; done) | (refine from_drew ?_; go_grown; done)) | exact hKst _ _ _ _ hHeld
  refine takeH 0 (some 3) (v := ?_) rfl rfl (by kernel_rfl) (by kernel_rfl) (by kernel_rfl) (by rfl) ?_ (by exact hHeld) ?_
  rotate_left
  · intro w hSw; (try dsimp only at hSw); go_simp; try (with_reducible rfl)
  try simp only [Act.put, List.setIfInBounds_toArray, List.set_cons_zero, List.set_cons_succ]
  refine takeH 1 (some 4) (v := ?_) rfl rfl (by kernel_rfl) (by kernel_rfl) (by kernel_rfl) (by rfl) ?_ (by exact hHeld) ?_
  rotate_left
  · intro w hSw; (try dsimp only at hSw); go_simp; try (with_reducible rfl)
  try simp only [Act.put, List.setIfInBounds_toArray, List.set_cons_zero, List.set_cons_succ]
  refine takeH 2 (some 5) (v := ?_) rfl rfl (by kernel_rfl) (by kernel_rfl) (by kernel_rfl) (by rfl) ?_ (by exact hHeld) ?_
  rotate_left
  · intro w hSw; (try dsimp only at hSw); go_simp; try (with_reducible rfl)
  try simp only [Act.put, List.setIfInBounds_toArray, List.set_cons_zero, List.set_cons_succ]
  refine takeH 3 (some 6) (v := ?_) rfl rfl (by kernel_rfl) (by kernel_rfl) (by kernel_rfl) (by rfl) ?_ (by exact hHeld) ?_
  rotate_left
  · intro w hSw; (try dsimp only at hSw); go_simp; try (with_reducible rfl)
  try simp only [Act.put, List.setIfInBounds_toArray, List.set_cons_zero, List.set_cons_succ]
  refine wpAnyH_ready (rs := [4]) (by kernel_rfl) (by simp) ?_
  refine stepH 4 rfl (by rfl) (fun K hK => ?_) ?_
  · go_simp
    ((with_reducible refine (ArrayCopy_any b.sp b.dp b.sc b.dc b.s b.d _ ?_ ?_ (by omega) (by omega)).mono ?_); (exact h1.keep hHeld.1); (exact h2.keep hHeld.1); rintro e1 w1 ⟨⟨p, c, q, f, rfl, hn1, hn2⟩, hb1⟩)
    refine hK.out _ _ ?_ (fun hNew => ?_)
    · (try dsimp only); first | exact hKS _ _ (by first | exact hHeld | exact hS) (by first | assumption | (go_grown; done) | (refine from_drew ?_; go_grown; done)) | exact hKst _ _ _ _ hHeld
    clear hK K hHeld
    have hHeld := hNew
    clear hNew
    try dsimp only at hHeld
    try simp only [Act.put, List.setIfInBounds_toArray, List.set_cons_zero, List.set_cons_succ]
    refine takeH 5 (some 8) (v := ?_) rfl rfl (by kernel_rfl) (by kernel_rfl) (by kernel_rfl) (by rfl) ?_ (by exact hHeld) ?_
    rotate_left
    · intro w hSw; (try dsimp only at hSw); go_simp; try (with_reducible rfl)
    try simp only [Act.put, List.setIfInBounds_toArray, List.set_cons_zero, List.set_cons_succ]
    refine wpAnyH_ready (rs := [6]) (by kernel_rfl) (by simp) ?_
    refine stepH 6 rfl (by rfl) (fun K hK => ?_) ?_
    · obtain ⟨hB1, hT4, hS1, u0, v0, x0, hO⟩ := id hHeld; have q0 := hO.cell (i := 0) rfl; have q1 := hO.cell (i := 1) rfl; have q2 := hO.cell (i := 2) rfl; have f0 := hO.frozen 0; have f1 := hO.frozen 1; have f2 := hO.frozen 2; go_simp
      refine hK.out _ _ ?_ (fun hNew => ?_)
      · (try dsimp only); first | exact hKS _ _ (by first | exact hHeld | exact hS) (by first | assumption | (go_grown; done) | (refine from_drew ?_; go_grown; done)) | exact hKst _ _ _ _ hHeld
      clear hK K hHeld
      have hHeld := hNew
      clear hNew
      try dsimp only at hHeld
      try simp only [Act.put, List.setIfInBounds_toArray, List.set_cons_zero, List.set_cons_succ]
      refine wpAnyH_done (by kernel_rfl) ?_ _
      refine NoPanic.normal ?_
      obtain ⟨hB2, -, -, -⟩ := hHeld
      have k1 := (((hn1.other (a := ⟨w.heap.size + 1, 0, none⟩) hlt (.string b.name)).other (a := ⟨w.heap.size + 1, 1, none⟩) hlt (.slice p b.s.length c)).other (a := ⟨w.heap.size + 1, 2, none⟩) hlt (.slice q b.d.length f)).mono (B' := w.heap.size) (by show w.heap.size ≤ W.heap.size; omega)
      have k2 := (((hn2.other (a := ⟨w.heap.size + 1, 0, none⟩) hlt (.string b.name)).other (a := ⟨w.heap.size + 1, 1, none⟩) hlt (.slice p b.s.length c)).other (a := ⟨w.heap.size + 1, 2, none⟩) hlt (.slice q b.d.length f)).mono (B' := w.heap.size) (by show w.heap.size ≤ W.heap.size; omega)
      go_wp2_with fail
      refine bodyPost_ret (v := .agg #[.string b.name, .slice p b.s.length c, .slice q b.d.length f]) (by simp [results, Try.results53, go_sem, q0, q1, q2, f0, f1, f2]) rfl ⟨⟨p, c, q, f, rfl, k1, k2⟩, hB2⟩
    exact AllReadyH.nil
  exact AllReadyH.nil
end Go.Proofs.Ytolkgjbljdmadaa
