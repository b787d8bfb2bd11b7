/- spec.Read at a literal; the fixed results of layer 12 (spec): awake, walked. No condition. -/
import Derived.Test.YtolkgjbljdmadaaSpec14
namespace Go.Proofs.Ytolkgjbljdmadaa
open Go.RowKit Go.Shelf
set_option linter.unusedVariables false
set_option linter.unusedSimpArgs false

theorem own_two {w : World} {g : Nat} {e : TypeId} {a b : Value} (h : Own w g e [a, b]) (x y : Value) : Own ((w.setCell ⟨g, 0, none⟩ x).setCell ⟨g, 1, none⟩ y) g e [x, y] :=
  (h.set (i := 0) (by simp) x).set (i := 1) (by simp) y

set_option maxRecDepth 100000 in
set_option maxHeartbeats 2000000 in
theorem Read_lit (pe : Option Addr) (s : ByteArray) (f a : Int) (pn pk : Option Addr) (cn n2 c2 : Nat) (vs : List Int) (sc : Bool) (hsc : ((vs.length : Int) == 1) = sc) (w : World) (h : Ints w pn vs) (hl : vs.length ≤ 1000000) :
    Calls Try.prog 40 #[.pointer pe, .agg #[.int .i64 1, .int .i64 f, .int .i64 a, .string s, .slice pn vs.length cn, .slice pk n2 c2]] w fun e w' =>
      (∃ q c', e = .returned (.tuple #[.agg #[.slice q vs.length c', .bool sc], .int .i64 0]) ∧ Ints w' q vs) ∧ Below w.heap.size w w' := by
  obtain ⟨W, hW⟩ : ∃ W, (w.alloc (.cells #[.int .i64 1, .int .i64 f, .int .i64 a, .string s, .slice pn vs.length cn, .slice pk n2 c2] 78)).alloc (.cells #[.slice none 0 0, .bool false] 30) = W := ⟨_, rfl⟩
  have hbA : Below w.heap.size w W := hW ▸ below_t (below_alloc _ _) (below_alloc _ _)
  have hO : Own W (w.heap.size + 1) 30 [.slice none 0 0, .bool false] := by
    rw [← hW]; exact Own.made _ _ _ _ (by simp)
  have ht : W.cell? ⟨w.heap.size, 4, none⟩ = some (.slice pn vs.length cn) := by rw [← hW]; simp [go_sem]
  have hlt : w.heap.size + 1 < W.heap.size := by rw [← hW]; simp
  have hKS : Keeps (fun w' => Below w.heap.size w w' ∧ w'.cell? ⟨w.heap.size, 4, none⟩ = some (.slice pn vs.length cn) ∧ w.heap.size + 1 < w'.heap.size ∧ ∃ u v, Own w' (w.heap.size + 1) 30 [u, v]) := by
    rintro a b ⟨h1, h2, h3, u, v, h4⟩ hb
    exact ⟨below_t h1 hb, (hb.cell (p := ⟨w.heap.size, 4, none⟩) (by show w.heap.size < _; omega)).trans h2, Nat.lt_of_lt_of_le h3 hb.size, u, v, h4.keep hb h3⟩
  have hKst : ∀ w' x y, (Below w.heap.size w w' ∧ w'.cell? ⟨w.heap.size, 4, none⟩ = some (.slice pn vs.length cn) ∧ w.heap.size + 1 < w'.heap.size ∧ ∃ u v, Own w' (w.heap.size + 1) 30 [u, v]) →
      (fun w' => Below w.heap.size w w' ∧ w'.cell? ⟨w.heap.size, 4, none⟩ = some (.slice pn vs.length cn) ∧ w.heap.size + 1 < w'.heap.size ∧ ∃ u v, Own w' (w.heap.size + 1) 30 [u, v]) ((w'.setCell ⟨w.heap.size + 1, 0, none⟩ x).setCell ⟨w.heap.size + 1, 1, none⟩ y) := by
    rintro w' x y ⟨h1, h2, h3, u, v, h4⟩
    have hle : w.heap.size ≤ w.heap.size + 1 := by omega
    refine ⟨(h1.setCell (p := ⟨w.heap.size + 1, 0, none⟩) hle _).setCell (p := ⟨w.heap.size + 1, 1, none⟩) hle _, ?_, by simpa using h3, x, y, own_two h4 x y⟩
    rw [World.cell?_setCell_far _ _ _ _ (by simp), World.cell?_setCell_far _ _ _ _ (by simp)]
    exact h2
  have hS : (fun w' => Below w.heap.size w w' ∧ w'.cell? ⟨w.heap.size, 4, none⟩ = some (.slice pn vs.length cn) ∧ w.heap.size + 1 < w'.heap.size ∧ ∃ u v, Own w' (w.heap.size + 1) 30 [u, v]) W := ⟨hbA, ht, hlt, _, _, hO⟩
  have HW := Lib.hid hW
  clear hW hO ht hbA
  go_enter Try.func40, Try.ntmps40
  go_wp2_with fail
  rw [HW.out]
  refine wp_region_noPanic ?_
  refine wp_region_held_drew (S := (fun w' => Below w.heap.size w w' ∧ w'.cell? ⟨w.heap.size, 4, none⟩ = some (.slice pn vs.length cn) ∧ w.heap.size + 1 < w'.heap.size ∧ ∃ u v, Own w' (w.heap.size + 1) 30 [u, v])) (by kernel_rfl) ?_ (fun hHeld => ?_)
  · (try dsimp only); first | exact hKS _ _ (by first | exact hHeld | exact hS) (by first | assumption | (go_grown; done) | (refine from_drew ?_; go_grown; done)) | exact hKst _ _ _ hHeld
  refine takeH 0 (some 11) (v := ?_) rfl rfl (by kernel_rfl) (by kernel_rfl) (by kernel_rfl) (by rfl) ?_ (by exact hHeld) ?_
  rotate_left
  · intro w hSw; (try dsimp only at hSw); go_simp; try (with_reducible rfl)
  try simp only [Act.put, List.setIfInBounds_toArray, List.set_cons_zero, List.set_cons_succ]
  refine takeH 1 (some 12) (v := ?_) rfl rfl (by kernel_rfl) (by kernel_rfl) (by kernel_rfl) (by rfl) ?_ (by exact hHeld) ?_
  rotate_left
  · intro w hSw; (try dsimp only at hSw); go_simp; try (with_reducible rfl)
  try simp only [Act.put, List.setIfInBounds_toArray, List.set_cons_zero, List.set_cons_succ]
  refine takeH 3 (some 14) (v := ?_) rfl rfl (by kernel_rfl) (by kernel_rfl) (by kernel_rfl) (by rfl) ?_ (by exact hHeld) ?_
  rotate_left
  · intro w hSw; (try dsimp only at hSw); go_simp; try (with_reducible rfl)
  try simp only [Act.put, List.setIfInBounds_toArray, List.set_cons_zero, List.set_cons_succ]
  refine takeH 4 (some 15) (v := ?_) rfl rfl (by kernel_rfl) (by kernel_rfl) (by kernel_rfl) (by rfl) ?_ (by exact hHeld) ?_
  rotate_left
  · intro w hSw; (try dsimp only at hSw); go_simp; try (with_reducible rfl)
  try simp only [Act.put, List.setIfInBounds_toArray, List.set_cons_zero, List.set_cons_succ]
  refine takeH 5 (some 16) (v := ?_) rfl rfl (by kernel_rfl) (by kernel_rfl) (by kernel_rfl) (by rfl) ?_ (by exact hHeld) ?_
  rotate_left
  · intro w hSw; (try dsimp only at hSw); go_simp; try (with_reducible rfl)
  try simp only [Act.put, List.setIfInBounds_toArray, List.set_cons_zero, List.set_cons_succ]
  refine takeH 6 (some 17) (v := ?_) rfl rfl (by kernel_rfl) (by kernel_rfl) (by kernel_rfl) (by rfl) ?_ (by exact hHeld) ?_
  rotate_left
  · intro w hSw; (try dsimp only at hSw); go_simp; try (with_reducible rfl)
  try simp only [Act.put, List.setIfInBounds_toArray, List.set_cons_zero, List.set_cons_succ]
  refine wpAnyH_ready (rs := [2]) (by kernel_rfl) (by simp) ?_
  refine stepH 2 rfl (by rfl) (fun K hK => ?_) ?_
  · go_simp
    ((with_reducible refine (Clone64_any pn cn vs _ ?_ hl).mono ?_); (exact h.keep hHeld.1); rintro e1 w1 ⟨⟨q, c', rfl, hnew⟩, hb1⟩)
    refine hK.out _ _ ?_ (fun hNew => ?_)
    · (try dsimp only); first | exact hKS _ _ (by first | exact hHeld | exact hS) (by first | assumption | (go_grown; done) | (refine from_drew ?_; go_grown; done)) | exact hKst _ _ _ hHeld
    clear hK K hHeld
    have hHeld := hNew
    clear hNew
    try dsimp only at hHeld
    try simp only [Act.put, List.setIfInBounds_toArray, List.set_cons_zero, List.set_cons_succ]
    refine takeH 7 (some 18) (v := ?_) rfl rfl (by kernel_rfl) (by kernel_rfl) (by kernel_rfl) (by rfl) ?_ (by exact hHeld) ?_
    rotate_left
    · intro w hSw; (try dsimp only at hSw); go_simp; try (with_reducible rfl)
    try simp only [Act.put, List.setIfInBounds_toArray, List.set_cons_zero, List.set_cons_succ]
    refine wpAnyH_ready (rs := [8]) (by kernel_rfl) (by simp) ?_
    refine stepH 8 rfl (by rfl) (fun K hK => ?_) ?_
    · obtain ⟨hB1, hT4, hS1, u0, v0, hO⟩ := id hHeld; have q0 := hO.cell (i := 0) rfl; have q1 := hO.cell (i := 1) rfl; have f0 := hO.frozen 0; have f1 := hO.frozen 1; go_simp
      refine hK.out _ _ ?_ (fun hNew => ?_)
      · (try dsimp only); first | exact hKS _ _ (by first | exact hHeld | exact hS) (by first | assumption | (go_grown; done) | (refine from_drew ?_; go_grown; done)) | exact hKst _ _ _ hHeld
      clear hK K hHeld
      have hHeld := hNew
      clear hNew
      try dsimp only at hHeld
      try simp only [Act.put, List.setIfInBounds_toArray, List.set_cons_zero, List.set_cons_succ]
      refine takeH 9 (some 5) (v := ?_) rfl rfl (by kernel_rfl) (by kernel_rfl) (by kernel_rfl) (by rfl) ?_ (by exact hHeld) ?_
      rotate_left
      · intro w hSw; (try dsimp only at hSw); go_simp; try (with_reducible rfl)
      try simp only [Act.put, List.setIfInBounds_toArray, List.set_cons_zero, List.set_cons_succ]
      refine wpAnyH_done (by kernel_rfl) ?_ _
      refine NoPanic.normal ?_
      obtain ⟨hB2, -, -, -⟩ := hHeld
      have hi2 := ((hnew.other (a := ⟨w.heap.size + 1, 0, none⟩) hlt (.slice q vs.length c')).other (a := ⟨w.heap.size + 1, 1, none⟩) hlt (.bool sc)).ints h.i64 h.small
      go_wp2_with fail
      refine bodyPost_ret (v := .tuple #[.agg #[.slice q vs.length c', .bool sc], .int .i64 0]) (by simp [results, Try.results40, go_sem, q0, q1, f0, f1]) rfl ⟨⟨q, c', rfl, ?_⟩, hB2⟩
      exact hi2
    exact AllReadyH.nil
  exact AllReadyH.nil
end Go.Proofs.Ytolkgjbljdmadaa
