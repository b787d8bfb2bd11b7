/- A box with another range for an axis: box.with. No condition beyond what each says. -/
import Derived.Test.YthkfjdhakbjllaaBox17
namespace Go.Proofs.Ythkfjdhakbjllaa
open Go.RowKit Go.Shelf
set_option linter.unusedVariables false
set_option linter.unusedSimpArgs false

theorem New.otherB {B g i : Nat} {w : World} {p : Option Addr} {vs us : List Value} (h : New B w p 3 vs) (ho : Own w g 67 us) (v : Value) : New B (w.setCell ⟨g, i, none⟩ v) p 3 vs := by
  rcases h with h | ⟨g', hp, hB, h⟩
  · exact .inl h
  · refine .inr ⟨g', hp, hB, h.other ?_ _⟩
    intro e
    change g = g' at e
    subst e
    obtain ⟨_, o1⟩ := ho
    obtain ⟨_, o2⟩ := h
    rw [o1] at o2
    simp at o2
theorem New.apart {B B' : Nat} {a b : World} {p q : Option Addr} {e : TypeId} {vs us : List Value} (h : New B a p e vs) (k : New B' b q e us) (hv : vs ≠ []) (hu : us ≠ []) (hB : a.heap.size ≤ B') : p ≠ q := by
  rcases h with h | ⟨g, hp, -, ho⟩
  · exact (hv h).elim
  · rcases k with k | ⟨g', hq, hg', -⟩
    · exact (hu k).elim
    · intro e
      rw [hp, hq] at e
      cases e
      have := ho.lt
      omega
theorem New.out {B : Nat} {w : World} {p : Option Addr} {e : TypeId} {vs : List Value} (h : New B w p e vs) (hv : vs ≠ []) : ∃ g, p = some ⟨g, 0, none⟩ ∧ B ≤ g ∧ Own w g e vs := by
  rcases h with h | h
  · exact (hv h).elim
  · exact h
theorem own_ne {w : World} {g k : Nat} {us vs : List Value} (h : Own w g 67 us) (h' : Own w k 3 vs) : g ≠ k := by
  rintro rfl
  obtain ⟨_, o1⟩ := h
  obtain ⟨_, o2⟩ := h'
  rw [o1] at o2
  simp at o2
/-- the box under way: two rows that lie apart -/
def WithSt (w : World) (xs ys : List Int) (g : Nat) (z : World) : Prop :=
  ∃ ga gb c1 c2, Own z g 67 [.slice (some ⟨ga, 0, none⟩) xs.length c1, .slice (some ⟨gb, 0, none⟩) ys.length c2] ∧ Own z ga 3 (xs.map (.int .i64)) ∧ Own z gb 3 (ys.map (.int .i64)) ∧ ga ≠ gb ∧ w.heap.size ≤ ga ∧ w.heap.size ≤ gb ∧
    w.heap.size + 2 ≤ g ∧ Own z (w.heap.size + 1) 67 [.slice none 0 0, .slice none 0 0] ∧ Below w.heap.size w z
theorem with_set {w W x : World} {g c1 c2 : Nat} {u v : Value} {p1 p2 : Option Addr} {xs ys : List Int} (hW : W.heap.size = w.heap.size + 2) (hbW : Below w.heap.size w W) (hr : Own W (w.heap.size + 1) 67 [.slice none 0 0, .slice none 0 0])
    (hx : Below W.heap.size W x) (hg : W.heap.size ≤ g) (ho : Own x g 67 [u, v]) (h1 : New W.heap.size x p1 3 (xs.map (.int .i64))) (h2 : New W.heap.size x p2 3 (ys.map (.int .i64))) (hap : p1 ≠ p2) (hxs : xs ≠ []) (hys : ys ≠ []) :
    WithSt w xs ys g ((x.setCell ⟨g, 0, none⟩ (.slice p1 xs.length c1)).setCell ⟨g, 1, none⟩ (.slice p2 ys.length c2)) := by
  have o1 := ho.set (i := 0) (by simp) (.slice p1 xs.length c1)
  have k1 := (h1.otherB (i := 0) ho (.slice p1 xs.length c1)).otherB (i := 1) o1 (.slice p2 ys.length c2)
  have k2 := (h2.otherB (i := 0) ho (.slice p1 xs.length c1)).otherB (i := 1) o1 (.slice p2 ys.length c2)
  have o2 := o1.set (i := 1) (by simp) (.slice p2 ys.length c2)
  obtain ⟨ga, rfl, hga, oa⟩ := k1.out (by simpa using hxs)
  obtain ⟨gb, rfl, hgb, ob⟩ := k2.out (by simpa using hys)
  refine ⟨ga, gb, c1, c2, o2, oa, ob, fun e => hap (by rw [e]), by omega, by omega, by omega, ?_, ?_⟩
  · exact (((hr.keep hx hr.lt).other (a := ⟨g, 0, none⟩) (by show g ≠ _; omega) _).other (a := ⟨g, 1, none⟩) (by show g ≠ _; omega) _)
  · exact below_set (below_set (below_t hbW hx) (by omega) 0 _) (by omega) 1 _
theorem with_lit {w W x : World} {c1 c2 : Nat} {p1 p2 : Option Addr} {xs ys : List Int} (hW : W.heap.size = w.heap.size + 2) (hbW : Below w.heap.size w W) (hr : Own W (w.heap.size + 1) 67 [.slice none 0 0, .slice none 0 0])
    (hx : Below W.heap.size W x) (h1 : New W.heap.size x p1 3 (xs.map (.int .i64))) (h2 : New W.heap.size x p2 3 (ys.map (.int .i64))) (hap : p1 ≠ p2) (hxs : xs ≠ []) (hys : ys ≠ []) :
    WithSt w xs ys x.heap.size (x.alloc (.cells #[.slice p1 xs.length c1, .slice p2 ys.length c2] 67)) := by
  have hba := below_alloc x (.cells #[.slice p1 xs.length c1, .slice p2 ys.length c2] 67)
  obtain ⟨ga, rfl, hga, oa⟩ := (h1.keep' hba).out (by simpa using hxs)
  obtain ⟨gb, rfl, hgb, ob⟩ := (h2.keep' hba).out (by simpa using hys)
  have hz := hx.size
  exact ⟨ga, gb, c1, c2, Own.made x _ [.slice (some ⟨ga, 0, none⟩) xs.length c1, .slice (some ⟨gb, 0, none⟩) ys.length c2] _ rfl, oa, ob, fun e => hap (by rw [e]), by omega, by omega, by omega, (hr.keep hx hr.lt).keep hba (by omega), below_t hbW (below_t hx hba)⟩
theorem WithSt.keep {w a z : World} {xs ys : List Int} {g : Nat} (h : WithSt w xs ys g a) (hb : Below a.heap.size a z) : WithSt w xs ys g z := by
  obtain ⟨ga, gb, c1, c2, o, oa, ob, hne, ha, hb', hg, hr, hbw⟩ := h
  exact ⟨ga, gb, c1, c2, o.keep hb o.lt, oa.keep hb oa.lt, ob.keep hb ob.lt, hne, ha, hb', hg, hr.keep hb hr.lt, below_t hbw hb⟩

theorem with_L1 {W w1 w2 : World} (hb1 : Below (W.alloc (.cells #[.slice none 0 0, .slice none 0 0] 67)).drew.heap.size (W.alloc (.cells #[.slice none 0 0, .slice none 0 0] 67)).drew w1) (hb2 : Below w1.heap.size w1 w2) : Own w2 W.heap.size 67 [.slice none 0 0, .slice none 0 0] ∧ Below W.heap.size W w2 := by
  have h0 : Own (W.alloc (.cells #[.slice none 0 0, .slice none 0 0] 67)).drew W.heap.size 67 [.slice none 0 0, .slice none 0 0] := Own.made W _ [.slice none 0 0, .slice none 0 0] 67 rfl
  have h1 := h0.keep hb1 h0.lt
  exact ⟨h1.keep hb2 h1.lt, below_t ((below_alloc W _).drew) (below_t hb1 hb2)⟩
theorem with_L2 {W w1 w2 : World} (hb1 : Below W.drew.heap.size W.drew w1) (hb2 : Below (w1.alloc (.cells #[.slice none 0 0, .slice none 0 0] 67)).heap.size (w1.alloc (.cells #[.slice none 0 0, .slice none 0 0] 67)) w2) : Own w2 w1.heap.size 67 [.slice none 0 0, .slice none 0 0] ∧ Below W.heap.size W w2 ∧ W.heap.size ≤ w1.heap.size := by
  have h0 := Own.made w1 _ [.slice none 0 0, .slice none 0 0] 67 rfl
  have hd := below_t ((Below.refl _ W).drew) hb1
  exact ⟨h0.keep hb2 h0.lt, below_t hd (below_t (below_alloc w1 _) hb2), hd.size⟩
theorem with_L3 {W w1 w2 : World} (hb1 : Below W.drew.heap.size W.drew w1) (hb2 : Below w1.heap.size w1 w2) : Below W.heap.size W w2 := below_t ((Below.refl _ W).drew) (below_t hb1 hb2)

set_option maxRecDepth 100000 in
set_option maxHeartbeats 4000000 in
theorem With_any (p q : Option Addr) (c f : Nat) (lo hi : List Int) (a : Nat) (x y : Int) (ha : a < lo.length) (hlh : lo.length = hi.length) (hl : lo.length ≤ 1000000) (w : World) (h : Ints w p lo) (h' : Ints w q hi) :
    Calls Try.prog 98 #[.agg #[.slice p lo.length c, .slice q hi.length f], .int .i64 a, .int .i64 x, .int .i64 y] w fun e w' =>
      (∃ p1 c1 p2 c2, e = .returned (.agg #[.slice p1 lo.length c1, .slice p2 hi.length c2]) ∧ New w.heap.size w' p1 3 ((lo.set a x).map (.int .i64)) ∧ New w.heap.size w' p2 3 ((hi.set a y).map (.int .i64))) ∧ Below w.heap.size w w' := by
  have hl' : hi.length ≤ 1000000 := by omega
  have ha' : a < hi.length := by omega
  have HL := Lib.hid hlh
  clear hlh
  have b1 := below_alloc w (.cells #[.slice p lo.length c, .slice q hi.length f] 67)
  have OA := Own.made w w.heap.size [.slice p lo.length c, .slice q hi.length f] 67 rfl
  obtain ⟨W1, hW1⟩ : ∃ W1, w.alloc (.cells #[.slice p lo.length c, .slice q hi.length f] 67) = W1 := ⟨_, rfl⟩
  have OA : Own W1 w.heap.size 67 [.slice p lo.length c, .slice q hi.length f] := hW1 ▸ OA
  have z1 : W1.heap.size = w.heap.size + 1 := by rw [← hW1]; simp
  rw [hW1] at b1
  have OB := Own.made W1 (w.heap.size + 1) [.slice none 0 0, .slice none 0 0] 67 z1.symm
  have b2 := below_alloc W1 (.cells #[.slice none 0 0, .slice none 0 0] 67)
  obtain ⟨W, hW⟩ : ∃ W, W1.alloc (.cells #[.slice none 0 0, .slice none 0 0] 67) = W := ⟨_, rfl⟩
  have OB : Own W (w.heap.size + 1) 67 [.slice none 0 0, .slice none 0 0] := hW ▸ OB
  have z2 : W.heap.size = w.heap.size + 2 := by rw [← hW]; simp [z1]
  rw [hW] at b2
  have OA := OA.keep b2 OA.lt
  have hbW := below_t b1 b2
  have HW : Hid ((w.alloc (.cells #[.slice p lo.length c, .slice q hi.length f] 67)).alloc (.cells #[.slice none 0 0, .slice none 0 0] 67) = W) := by rw [Hid, hW1, hW]
  have Z2 := Lib.hid z2
  have OB := Lib.hid OB
  have hn1 : lo ≠ [] := fun e => by rw [e] at ha; simp at ha
  have hn2 : hi ≠ [] := fun e => by rw [e] at ha'; simp at ha'
  have N1 := Lib.hid hn1
  have N2 := Lib.hid hn2
  have hKS : Keeps (fun w' => (w.heap.size < w'.heap.size ∧ w'.cell? ⟨w.heap.size, 0, none⟩ = some (.slice p lo.length c)) ∧ (w.heap.size < w'.heap.size ∧ w'.cell? ⟨w.heap.size, 1, none⟩ = some (.slice q hi.length f)) ∧ Below w.heap.size w w') := (keeps_cell _ _ _).and ((keeps_cell _ _ _).and (keeps_below w))
  have hS : (fun w' => (w.heap.size < w'.heap.size ∧ w'.cell? ⟨w.heap.size, 0, none⟩ = some (.slice p lo.length c)) ∧ (w.heap.size < w'.heap.size ∧ w'.cell? ⟨w.heap.size, 1, none⟩ = some (.slice q hi.length f)) ∧ Below w.heap.size w w') W := ⟨⟨OA.lt, OA.cell (i := 0) rfl⟩, ⟨OA.lt, OA.cell (i := 1) rfl⟩, hbW⟩
  have hKst : ∀ z g u v, w.heap.size + 2 ≤ g → (fun w' => (w.heap.size < w'.heap.size ∧ w'.cell? ⟨w.heap.size, 0, none⟩ = some (.slice p lo.length c)) ∧ (w.heap.size < w'.heap.size ∧ w'.cell? ⟨w.heap.size, 1, none⟩ = some (.slice q hi.length f)) ∧ Below w.heap.size w w') z → (fun w' => (w.heap.size < w'.heap.size ∧ w'.cell? ⟨w.heap.size, 0, none⟩ = some (.slice p lo.length c)) ∧ (w.heap.size < w'.heap.size ∧ w'.cell? ⟨w.heap.size, 1, none⟩ = some (.slice q hi.length f)) ∧ Below w.heap.size w w') ((z.setCell ⟨g, 0, none⟩ u).setCell ⟨g, 1, none⟩ v) := by
    rintro z g u v hg ⟨⟨h1, h2⟩, ⟨-, h3⟩, h4⟩
    have hf : ∀ i, ((z.setCell ⟨g, 0, none⟩ u).setCell ⟨g, 1, none⟩ v).cell? ⟨w.heap.size, i, none⟩ = z.cell? ⟨w.heap.size, i, none⟩ := fun i => by
      rw [World.cell?_setCell_far _ _ _ _ (by show g ≠ w.heap.size; omega), World.cell?_setCell_far _ _ _ _ (by show g ≠ w.heap.size; omega)]
    exact ⟨⟨by simpa using h1, (hf 0).trans h2⟩, ⟨by simpa using h1, (hf 1).trans h3⟩, below_set (below_set h4 (by omega) 0 _) (by omega) 1 _⟩
  have hKal : ∀ (z : World) o o', w.heap.size < z.heap.size → (fun w' => (w.heap.size < w'.heap.size ∧ w'.cell? ⟨w.heap.size, 0, none⟩ = some (.slice p lo.length c)) ∧ (w.heap.size < w'.heap.size ∧ w'.cell? ⟨w.heap.size, 1, none⟩ = some (.slice q hi.length f)) ∧ Below w.heap.size w w') (z.alloc o) → (fun w' => (w.heap.size < w'.heap.size ∧ w'.cell? ⟨w.heap.size, 0, none⟩ = some (.slice p lo.length c)) ∧ (w.heap.size < w'.heap.size ∧ w'.cell? ⟨w.heap.size, 1, none⟩ = some (.slice q hi.length f)) ∧ Below w.heap.size w w') (z.alloc o') := by
    rintro z o o' hz ⟨⟨h1, h2⟩, ⟨-, h3⟩, h4⟩
    have hf : ∀ o i, (z.alloc o).cell? ⟨w.heap.size, i, none⟩ = z.cell? ⟨w.heap.size, i, none⟩ := fun o i => (below_alloc z o).cell (p := ⟨w.heap.size, i, none⟩) hz
    have h5 : Below w.heap.size w z := ⟨h4.os, h4.tape, h4.output, by omega, fun k hk => ((below_alloc z o).block k (by omega)).symm.trans (h4.block k hk)⟩
    exact ⟨⟨by simp; omega, (hf o' 0).trans ((hf o 0).symm.trans h2)⟩, ⟨by simp; omega, (hf o' 1).trans ((hf o 1).symm.trans h3)⟩, below_t h5 (below_alloc z o')⟩
  clear b1 b2 hW1 hW z1 z2 OA hn1 hn2
  go_enter Try.func98, Try.ntmps98
  go_wp2_with fail
  rw [HW.out]
  clear HW
  go_upto_region 1 with fail
  go_cut [9] (fun t wx => ∃ g wz, t = .pointer (some ⟨g, 0, none⟩) ∧ wz = wx ∧ Hid (WithSt w lo hi g wz))
  case first =>
    refine wp_region_noPanic ?_
    refine wp_region_held_drew (S := (fun w' => (w.heap.size < w'.heap.size ∧ w'.cell? ⟨w.heap.size, 0, none⟩ = some (.slice p lo.length c)) ∧ (w.heap.size < w'.heap.size ∧ w'.cell? ⟨w.heap.size, 1, none⟩ = some (.slice q hi.length f)) ∧ Below w.heap.size w w')) (by kernel_rfl) ?_ (fun hHeld => ?_)
    · (try dsimp only); first | exact hKS _ _ (by first | exact hHeld | exact hS) (by first | assumption | (go_grown; done) | (refine from_drew ?_; go_grown; done)) | exact hKst _ _ _ _ (by first | exact hg9 | omega) hHeld | exact hKal w2 _ _ (by have := Z2.out; have := hx9.size; omega) hHeld
    refine takeH 0 (some 10) (v := ?_) rfl rfl (by kernel_rfl) (by kernel_rfl) (by kernel_rfl) (by rfl) ?_ (by exact hHeld) ?_
    rotate_left
    · intro w hSw; (try dsimp only at hSw); go_simp; try (with_reducible rfl)
    try simp only [Act.put, List.setIfInBounds_toArray, List.set_cons_zero, List.set_cons_succ]
    refine takeH 1 (some 11) (v := ?_) rfl rfl (by kernel_rfl) (by kernel_rfl) (by kernel_rfl) (by rfl) ?_ (by exact hHeld) ?_
    rotate_left
    · intro w hSw; (try dsimp only at hSw); go_simp; try (with_reducible rfl)
    try simp only [Act.put, List.setIfInBounds_toArray, List.set_cons_zero, List.set_cons_succ]
    refine takeH 3 (some 13) (v := ?_) rfl rfl (by kernel_rfl) (by kernel_rfl) (by kernel_rfl) (by rfl) ?_ (by exact hHeld) ?_
    rotate_left
    · intro w hSw; (try dsimp only at hSw); go_simp; try (with_reducible rfl)
    try simp only [Act.put, List.setIfInBounds_toArray, List.set_cons_zero, List.set_cons_succ]
    refine takeH 4 (some 14) (v := ?_) rfl rfl (by kernel_rfl) (by kernel_rfl) (by kernel_rfl) (by rfl) ?_ (by exact hHeld) ?_
    rotate_left
    · intro w hSw; (try dsimp only at hSw); go_simp; try (with_reducible rfl)
    try simp only [Act.put, List.setIfInBounds_toArray, List.set_cons_zero, List.set_cons_succ]
    refine wpAnyH_ready (rs := [2, 7]) (by kernel_rfl) (by simp) ?_
    refine stepH 2 rfl (by rfl) (fun K hK => ?_) ?_
    · go_simp
      ((with_reducible refine (Clone_any p c lo _ ?_ hl).mono ?_); (exact h.keep hHeld.2.2); rintro e1 w1 ⟨⟨p1, c1, rfl, hn1⟩, hb1⟩)
      refine hK.out _ _ ?_ (fun hNew => ?_)
      · (try dsimp only); first | exact hKS _ _ (by first | exact hHeld | exact hS) (by first | assumption | (go_grown; done) | (refine from_drew ?_; go_grown; done)) | exact hKst _ _ _ _ (by first | exact hg9 | omega) hHeld | exact hKal w2 _ _ (by have := Z2.out; have := hx9.size; omega) hHeld
      clear hK K hHeld
      have hHeld := hNew
      clear hNew
      try dsimp only at hHeld
      try simp only [Act.put, List.setIfInBounds_toArray, List.set_cons_zero, List.set_cons_succ]
      refine wpAnyH_ready (rs := [5, 7]) (by kernel_rfl) (by simp) ?_
      refine stepH 5 rfl (by rfl) (fun K hK => ?_) ?_
      · go_simp
        ((with_reducible refine (Clone_any q f hi _ ?_ hl').mono ?_); (exact h'.keep hHeld.2.2); rintro e2 w2 ⟨⟨p2, c2, rfl, hn2⟩, hb2⟩)
        refine hK.out _ _ ?_ (fun hNew => ?_)
        · (try dsimp only); first | exact hKS _ _ (by first | exact hHeld | exact hS) (by first | assumption | (go_grown; done) | (refine from_drew ?_; go_grown; done)) | exact hKst _ _ _ _ (by first | exact hg9 | omega) hHeld | exact hKal w2 _ _ (by have := Z2.out; have := hx9.size; omega) hHeld
        clear hK K hHeld
        have hHeld := hNew
        clear hNew
        try dsimp only at hHeld
        try simp only [Act.put, List.setIfInBounds_toArray, List.set_cons_zero, List.set_cons_succ]
        refine takeH 6 (some 16) (v := ?_) rfl rfl (by kernel_rfl) (by kernel_rfl) (by kernel_rfl) (by rfl) ?_ (by exact hHeld) ?_
        rotate_left
        · intro w hSw; (try dsimp only at hSw); go_simp; try (with_reducible rfl)
        try simp only [Act.put, List.setIfInBounds_toArray, List.set_cons_zero, List.set_cons_succ]
        refine wpAnyH_ready (rs := [7]) (by kernel_rfl) (by simp) ?_
        refine stepH 7 rfl (by rfl) (fun K hK => ?_) ?_
        · go_simp
          refine hK.out _ _ ?_ (fun hNew => ?_)
          · (try dsimp only); first | exact hKS _ _ (by first | exact hHeld | exact hS) (by first | assumption | (go_grown; done) | (refine from_drew ?_; go_grown; done)) | exact hKst _ _ _ _ (by first | exact hg9 | omega) hHeld | exact hKal w2 _ _ (by have := Z2.out; have := hx9.size; omega) hHeld
          clear hK K hHeld
          have hHeld := hNew
          clear hNew
          try dsimp only at hHeld
          try simp only [Act.put, List.setIfInBounds_toArray, List.set_cons_zero, List.set_cons_succ]
          refine wpAnyH_ready (rs := [8]) (by kernel_rfl) (by simp) ?_
          refine stepH 8 rfl (by rfl) (fun K hK => ?_) ?_
          · (first | (have hL9 := with_L1 hb1 hb2; obtain ⟨hO9, hx9⟩ := hL9; have hg9 : w.heap.size + 2 ≤ W.heap.size := by have := Z2.out; omega) | (have hL9 := with_L2 hb1 hb2; obtain ⟨hO9, hx9, hy9⟩ := hL9; have hg9 : w.heap.size + 2 ≤ w1.heap.size := by have := Z2.out; omega) | (have hx9 := with_L3 hb1 hb2)); (try have q0 := hO9.cell (i := 0) rfl); (try have q1 := hO9.cell (i := 1) rfl); (try have f0 := hO9.frozen 0); (try have f1 := hO9.frozen 1); go_simp
            refine hK.out _ _ ?_ (fun hNew => ?_)
            · (try dsimp only); first | exact hKS _ _ (by first | exact hHeld | exact hS) (by first | assumption | (go_grown; done) | (refine from_drew ?_; go_grown; done)) | exact hKst _ _ _ _ (by first | exact hg9 | omega) hHeld | exact hKal w2 _ _ (by have := Z2.out; have := hx9.size; omega) hHeld
            clear hK K hHeld
            have hHeld := hNew
            clear hNew
            try dsimp only at hHeld
            try simp only [Act.put, List.setIfInBounds_toArray, List.set_cons_zero, List.set_cons_succ]
            refine wpAnyH_done (by kernel_rfl) ?_ _
            refine NoPanic.normal ?_
            go_wp2_with fail
            all_goals go_meet
            first | exact ⟨_, _, rfl, rfl, with_set Z2.out hbW OB.out hx9 (Nat.le_refl _) hO9 ((hn1.keep' hb2).mono (by simp)) (hn2.mono (by have := hb1.size; simp at this; omega)) (hn1.apart hn2 (by simpa using N1.out) (by simpa using N2.out) (Nat.le_refl _)) N1.out N2.out⟩ | exact ⟨_, _, rfl, rfl, with_set Z2.out hbW OB.out hx9 hy9 hO9 ((hn1.keep' (below_t (below_alloc _ _) hb2)).mono (by simp)) (hn2.mono (by simp; omega)) (hn1.apart hn2 (by simpa using N1.out) (by simpa using N2.out) (by simp)) N1.out N2.out⟩ | exact ⟨_, _, rfl, rfl, with_lit Z2.out hbW OB.out hx9 ((hn1.keep' hb2).mono (by simp)) (hn2.mono (by have := hb1.size; simp at this; omega)) (hn1.apart hn2 (by simpa using N1.out) (by simpa using N2.out) (Nat.le_refl _)) N1.out N2.out⟩
          exact AllReadyH.nil
        exact AllReadyH.nil
      refine stepH 7 rfl (by rfl) (fun K hK => ?_) ?_
      · go_simp
        refine hK.out _ _ ?_ (fun hNew => ?_)
        · (try dsimp only); first | exact hKS _ _ (by first | exact hHeld | exact hS) (by first | assumption | (go_grown; done) | (refine from_drew ?_; go_grown; done)) | exact hKst _ _ _ _ (by first | exact hg9 | omega) hHeld | exact hKal w2 _ _ (by have := Z2.out; have := hx9.size; omega) hHeld
        clear hK K hHeld
        have hHeld := hNew
        clear hNew
        try dsimp only at hHeld
        try simp only [Act.put, List.setIfInBounds_toArray, List.set_cons_zero, List.set_cons_succ]
        refine wpAnyH_ready (rs := [5]) (by kernel_rfl) (by simp) ?_
        refine stepH 5 rfl (by rfl) (fun K hK => ?_) ?_
        · go_simp
          ((with_reducible refine (Clone_any q f hi _ ?_ hl').mono ?_); (exact h'.keep hHeld.2.2); rintro e2 w2 ⟨⟨p2, c2, rfl, hn2⟩, hb2⟩)
          refine hK.out _ _ ?_ (fun hNew => ?_)
          · (try dsimp only); first | exact hKS _ _ (by first | exact hHeld | exact hS) (by first | assumption | (go_grown; done) | (refine from_drew ?_; go_grown; done)) | exact hKst _ _ _ _ (by first | exact hg9 | omega) hHeld | exact hKal w2 _ _ (by have := Z2.out; have := hx9.size; omega) hHeld
          clear hK K hHeld
          have hHeld := hNew
          clear hNew
          try dsimp only at hHeld
          try simp only [Act.put, List.setIfInBounds_toArray, List.set_cons_zero, List.set_cons_succ]
          refine takeH 6 (some 16) (v := ?_) rfl rfl (by kernel_rfl) (by kernel_rfl) (by kernel_rfl) (by rfl) ?_ (by exact hHeld) ?_
          rotate_left
          · intro w hSw; (try dsimp only at hSw); go_simp; try (with_reducible rfl)
          try simp only [Act.put, List.setIfInBounds_toArray, List.set_cons_zero, List.set_cons_succ]
          refine wpAnyH_ready (rs := [8]) (by kernel_rfl) (by simp) ?_
          refine stepH 8 rfl (by rfl) (fun K hK => ?_) ?_
          · (first | (have hL9 := with_L1 hb1 hb2; obtain ⟨hO9, hx9⟩ := hL9; have hg9 : w.heap.size + 2 ≤ W.heap.size := by have := Z2.out; omega) | (have hL9 := with_L2 hb1 hb2; obtain ⟨hO9, hx9, hy9⟩ := hL9; have hg9 : w.heap.size + 2 ≤ w1.heap.size := by have := Z2.out; omega) | (have hx9 := with_L3 hb1 hb2)); (try have q0 := hO9.cell (i := 0) rfl); (try have q1 := hO9.cell (i := 1) rfl); (try have f0 := hO9.frozen 0); (try have f1 := hO9.frozen 1); go_simp
            refine hK.out _ _ ?_ (fun hNew => ?_)
            · (try dsimp only); first | exact hKS _ _ (by first | exact hHeld | exact hS) (by first | assumption | (go_grown; done) | (refine from_drew ?_; go_grown; done)) | exact hKst _ _ _ _ (by first | exact hg9 | omega) hHeld | exact hKal w2 _ _ (by have := Z2.out; have := hx9.size; omega) hHeld
            clear hK K hHeld
            have hHeld := hNew
            clear hNew
            try dsimp only at hHeld
            try simp only [Act.put, List.setIfInBounds_toArray, List.set_cons_zero, List.set_cons_succ]
            refine wpAnyH_done (by kernel_rfl) ?_ _
            refine NoPanic.normal ?_
            go_wp2_with fail
            all_goals go_meet
            first | exact ⟨_, _, rfl, rfl, with_set Z2.out hbW OB.out hx9 (Nat.le_refl _) hO9 ((hn1.keep' hb2).mono (by simp)) (hn2.mono (by have := hb1.size; simp at this; omega)) (hn1.apart hn2 (by simpa using N1.out) (by simpa using N2.out) (Nat.le_refl _)) N1.out N2.out⟩ | exact ⟨_, _, rfl, rfl, with_set Z2.out hbW OB.out hx9 hy9 hO9 ((hn1.keep' (below_t (below_alloc _ _) hb2)).mono (by simp)) (hn2.mono (by simp; omega)) (hn1.apart hn2 (by simpa using N1.out) (by simpa using N2.out) (by simp)) N1.out N2.out⟩ | exact ⟨_, _, rfl, rfl, with_lit Z2.out hbW OB.out hx9 ((hn1.keep' hb2).mono (by simp)) (hn2.mono (by have := hb1.size; simp at this; omega)) (hn1.apart hn2 (by simpa using N1.out) (by simpa using N2.out) (Nat.le_refl _)) N1.out N2.out⟩
          exact AllReadyH.nil
        exact AllReadyH.nil
      exact AllReadyH.nil
    refine stepH 7 rfl (by rfl) (fun K hK => ?_) ?_
    · go_simp
      refine hK.out _ _ ?_ (fun hNew => ?_)
      · (try dsimp only); first | exact hKS _ _ (by first | exact hHeld | exact hS) (by first | assumption | (go_grown; done) | (refine from_drew ?_; go_grown; done)) | exact hKst _ _ _ _ (by first | exact hg9 | omega) hHeld | exact hKal w2 _ _ (by have := Z2.out; have := hx9.size; omega) hHeld
      clear hK K hHeld
      have hHeld := hNew
      clear hNew
      try dsimp only at hHeld
      try simp only [Act.put, List.setIfInBounds_toArray, List.set_cons_zero, List.set_cons_succ]
      refine wpAnyH_ready (rs := [2]) (by kernel_rfl) (by simp) ?_
      refine stepH 2 rfl (by rfl) (fun K hK => ?_) ?_
      · go_simp
        ((with_reducible refine (Clone_any p c lo _ ?_ hl).mono ?_); (exact h.keep hHeld.2.2); rintro e1 w1 ⟨⟨p1, c1, rfl, hn1⟩, hb1⟩)
        refine hK.out _ _ ?_ (fun hNew => ?_)
        · (try dsimp only); first | exact hKS _ _ (by first | exact hHeld | exact hS) (by first | assumption | (go_grown; done) | (refine from_drew ?_; go_grown; done)) | exact hKst _ _ _ _ (by first | exact hg9 | omega) hHeld | exact hKal w2 _ _ (by have := Z2.out; have := hx9.size; omega) hHeld
        clear hK K hHeld
        have hHeld := hNew
        clear hNew
        try dsimp only at hHeld
        try simp only [Act.put, List.setIfInBounds_toArray, List.set_cons_zero, List.set_cons_succ]
        refine wpAnyH_ready (rs := [5]) (by kernel_rfl) (by simp) ?_
        refine stepH 5 rfl (by rfl) (fun K hK => ?_) ?_
        · go_simp
          ((with_reducible refine (Clone_any q f hi _ ?_ hl').mono ?_); (exact h'.keep hHeld.2.2); rintro e2 w2 ⟨⟨p2, c2, rfl, hn2⟩, hb2⟩)
          refine hK.out _ _ ?_ (fun hNew => ?_)
          · (try dsimp only); first | exact hKS _ _ (by first | exact hHeld | exact hS) (by first | assumption | (go_grown; done) | (refine from_drew ?_; go_grown; done)) | exact hKst _ _ _ _ (by first | exact hg9 | omega) hHeld | exact hKal w2 _ _ (by have := Z2.out; have := hx9.size; omega) hHeld
          clear hK K hHeld
          have hHeld := hNew
          clear hNew
          try dsimp only at hHeld
          try simp only [Act.put, List.setIfInBounds_toArray, List.set_cons_zero, List.set_cons_succ]
          refine takeH 6 (some 16) (v := ?_) rfl rfl (by kernel_rfl) (by kernel_rfl) (by kernel_rfl) (by rfl) ?_ (by exact hHeld) ?_
          rotate_left
          · intro w hSw; (try dsimp only at hSw); go_simp; try (with_reducible rfl)
          try simp only [Act.put, List.setIfInBounds_toArray, List.set_cons_zero, List.set_cons_succ]
          refine wpAnyH_ready (rs := [8]) (by kernel_rfl) (by simp) ?_
          refine stepH 8 rfl (by rfl) (fun K hK => ?_) ?_
          · (first | (have hL9 := with_L1 hb1 hb2; obtain ⟨hO9, hx9⟩ := hL9; have hg9 : w.heap.size + 2 ≤ W.heap.size := by have := Z2.out; omega) | (have hL9 := with_L2 hb1 hb2; obtain ⟨hO9, hx9, hy9⟩ := hL9; have hg9 : w.heap.size + 2 ≤ w1.heap.size := by have := Z2.out; omega) | (have hx9 := with_L3 hb1 hb2)); (try have q0 := hO9.cell (i := 0) rfl); (try have q1 := hO9.cell (i := 1) rfl); (try have f0 := hO9.frozen 0); (try have f1 := hO9.frozen 1); go_simp
            refine hK.out _ _ ?_ (fun hNew => ?_)
            · (try dsimp only); first | exact hKS _ _ (by first | exact hHeld | exact hS) (by first | assumption | (go_grown; done) | (refine from_drew ?_; go_grown; done)) | exact hKst _ _ _ _ (by first | exact hg9 | omega) hHeld | exact hKal w2 _ _ (by have := Z2.out; have := hx9.size; omega) hHeld
            clear hK K hHeld
            have hHeld := hNew
            clear hNew
            try dsimp only at hHeld
            try simp only [Act.put, List.setIfInBounds_toArray, List.set_cons_zero, List.set_cons_succ]
            refine wpAnyH_done (by kernel_rfl) ?_ _
            refine NoPanic.normal ?_
            go_wp2_with fail
            all_goals go_meet
            first | exact ⟨_, _, rfl, rfl, with_set Z2.out hbW OB.out hx9 (Nat.le_refl _) hO9 ((hn1.keep' hb2).mono (by simp)) (hn2.mono (by have := hb1.size; simp at this; omega)) (hn1.apart hn2 (by simpa using N1.out) (by simpa using N2.out) (Nat.le_refl _)) N1.out N2.out⟩ | exact ⟨_, _, rfl, rfl, with_set Z2.out hbW OB.out hx9 hy9 hO9 ((hn1.keep' (below_t (below_alloc _ _) hb2)).mono (by simp)) (hn2.mono (by simp; omega)) (hn1.apart hn2 (by simpa using N1.out) (by simpa using N2.out) (by simp)) N1.out N2.out⟩ | exact ⟨_, _, rfl, rfl, with_lit Z2.out hbW OB.out hx9 ((hn1.keep' hb2).mono (by simp)) (hn2.mono (by have := hb1.size; simp at this; omega)) (hn1.apart hn2 (by simpa using N1.out) (by simpa using N2.out) (Nat.le_refl _)) N1.out N2.out⟩
          exact AllReadyH.nil
        exact AllReadyH.nil
      exact AllReadyH.nil
    exact AllReadyH.nil
  case rest =>
    obtain ⟨g, wz, rfl, rfl, HT⟩ := hcut
    obtain ⟨ga, gb, c1, c2, og, oa, ob, hne, hga, hgb, hg, hr, hb⟩ := HT.out
    have q0 := og.cell (i := 0) rfl
    have q1 := og.cell (i := 1) rfl
    have r0 := hr.cell (i := 0) rfl
    have r1 := hr.cell (i := 1) rfl
    have f0 := hr.frozen 0
    have f1 := hr.frozen 1
    have ca : wz.cell? ⟨ga, a, none⟩ = some (.int .i64 (nth lo a)) := oa.cell (by rw [List.getElem?_map, nth_get? ha]; rfl)
    have cb : wz.cell? ⟨gb, a, none⟩ = some (.int .i64 (nth hi a)) := ob.cell (by rw [List.getElem?_map, nth_get? ha']; rfl)
    have fa := oa.frozen a
    have fb := ob.frozen a
    have hia : (a : Int) < (lo.length : Int) := by omega
    have hib : (a : Int) < (hi.length : Int) := by omega
    have na := own_ne og oa
    have nb := own_ne og ob
    have na' := na.symm
    have nb' := nb.symm
    have hne' := hne.symm
    have nr : ga ≠ w.heap.size + 1 := (own_ne hr oa).symm
    have nr' : gb ≠ w.heap.size + 1 := (own_ne hr ob).symm
    have ng : g ≠ w.heap.size + 1 := by omega
    go_wp2_with fail
    go_region
    have OG : Own ((wz.setCell ⟨ga, a, none⟩ (.int .i64 x)).setCell ⟨gb, a, none⟩ (.int .i64 y)).drew g 67 [.slice (some ⟨ga, 0, none⟩) lo.length c1, .slice (some ⟨gb, 0, none⟩) hi.length c2] := (og.other (a := ⟨ga, a, none⟩) na' _).other (a := ⟨gb, a, none⟩) nb' _
    have OR : Own ((wz.setCell ⟨ga, a, none⟩ (.int .i64 x)).setCell ⟨gb, a, none⟩ (.int .i64 y)).drew (w.heap.size + 1) 67 [.slice none 0 0, .slice none 0 0] := (hr.other (a := ⟨ga, a, none⟩) nr _).other (a := ⟨gb, a, none⟩) nr' _
    have OA : Own ((wz.setCell ⟨ga, a, none⟩ (.int .i64 x)).setCell ⟨gb, a, none⟩ (.int .i64 y)).drew ga 3 ((lo.set a x).map (.int .i64)) := by
      rw [List.map_set]
      exact (oa.set (by rw [List.length_map]; exact ha) _).other (a := ⟨gb, a, none⟩) hne' _
    have OB : Own ((wz.setCell ⟨ga, a, none⟩ (.int .i64 x)).setCell ⟨gb, a, none⟩ (.int .i64 y)).drew gb 3 ((hi.set a y).map (.int .i64)) := by
      rw [List.map_set]
      exact (ob.other (a := ⟨ga, a, none⟩) hne _).set (by rw [List.length_map]; exact ha') _
    have hbz : Below w.heap.size w ((wz.setCell ⟨ga, a, none⟩ (.int .i64 x)).setCell ⟨gb, a, none⟩ (.int .i64 y)).drew := (below_set (below_set hb hga a _) hgb a _).drew
    obtain ⟨Wf, hWf⟩ : ∃ Wf, ((wz.setCell ⟨ga, a, none⟩ (.int .i64 x)).setCell ⟨gb, a, none⟩ (.int .i64 y)).drew = Wf := ⟨_, rfl⟩
    rw [hWf] at OG OR OA OB hbz
    rw [hWf]
    clear q0 q1 r0 r1 f0 f1 ca cb fa fb hia hib og oa ob hr hb hWf HT HL
    have q0 := OG.cell (i := 0) rfl
    have q1 := OG.cell (i := 1) rfl
    have r0 := OR.cell (i := 0) rfl
    have r1 := OR.cell (i := 1) rfl
    have f0 := OR.frozen 0
    have f1 := OR.frozen 1
    go_wp2_with fail
    refine bodyPost_ret (v := .agg #[.slice (some ⟨ga, 0, none⟩) lo.length c1, .slice (some ⟨gb, 0, none⟩) hi.length c2]) (by simp [results, Try.results98, go_sem, r0, r1, f0, f1]) rfl ⟨⟨_, c1, _, c2, rfl, ?_, ?_⟩, ?_⟩
    · exact .inr ⟨ga, rfl, hga, (OA.other (a := ⟨w.heap.size + 1, 0, none⟩) nr.symm _).other (a := ⟨w.heap.size + 1, 1, none⟩) nr.symm _⟩
    · exact .inr ⟨gb, rfl, hgb, (OB.other (a := ⟨w.heap.size + 1, 0, none⟩) nr'.symm _).other (a := ⟨w.heap.size + 1, 1, none⟩) nr'.symm _⟩
    · exact below_set (below_set hbz (by omega) 0 _) (by omega) 1 _
end Go.Proofs.Ythkfjdhakbjllaa
