/- Copy of the reference. No condition beyond what each says. -/
import Derived.Test.YtjehgcmcphgofaaTr28
namespace Go.Proofs.Ytjehgcmcphgofaa
open Go.RowKit Go.Shelf
set_option linter.unusedVariables false
set_option linter.unusedSimpArgs false

theorem rcopy_boxes (w : World) (d : TD) : ∃ W X Y, X = w.heap.size + 1 ∧ Y = w.heap.size + 1 + 1 ∧ ((w.alloc (.cells #[.int .i64 d.kind, .int .i64 d.fn, .int .i64 d.axis, .string d.name, .slice d.np d.nums.length d.nc, .slice d.kp d.n d.kc] 25)).alloc (.cells #[.int .i64 0, .int .i64 0, .int .i64 0, .string ⟨#[]⟩, .slice none 0 0, .slice none 0 0] 25)).alloc (.cells #[.int .i64 d.kind, .int .i64 d.fn, .int .i64 d.axis, .string d.name, .slice d.np d.nums.length d.nc, .slice d.kp d.n d.kc] 25) = W ∧
    Own W w.heap.size 25 [.int .i64 d.kind, .int .i64 d.fn, .int .i64 d.axis, .string d.name, .slice d.np d.nums.length d.nc, .slice d.kp d.n d.kc] ∧ Own W X 25 [.int .i64 0, .int .i64 0, .int .i64 0, .string ⟨#[]⟩, .slice none 0 0, .slice none 0 0] ∧ Own W Y 25 [.int .i64 d.kind, .int .i64 d.fn, .int .i64 d.axis, .string d.name, .slice d.np d.nums.length d.nc, .slice d.kp d.n d.kc] ∧ Below w.heap.size w W ∧ W.heap.size = w.heap.size + 3 := by
  refine ⟨_, _, _, rfl, rfl, rfl, ?_, ?_, ?_, below_t (below_t (below_alloc _ _) (below_alloc _ _)) (below_alloc _ _), by simp⟩
  · exact ((Own.made w _ [.int .i64 d.kind, .int .i64 d.fn, .int .i64 d.axis, .string d.name, .slice d.np d.nums.length d.nc, .slice d.kp d.n d.kc] _ rfl).keep (below_alloc _ _) (by simp)).keep (below_alloc _ _) (by simp; omega)
  · exact (Own.made _ _ [.int .i64 0, .int .i64 0, .int .i64 0, .string ⟨#[]⟩, .slice none 0 0, .slice none 0 0] _ (by simp)).keep (below_alloc _ _) (by simp)
  · exact Own.made _ _ [.int .i64 d.kind, .int .i64 d.fn, .int .i64 d.axis, .string d.name, .slice d.np d.nums.length d.nc, .slice d.kp d.n d.kc] _ (by simp)
/-- the boxes of a copy under way -/
structure RBox (w : World) (d : TD) (B : Nat) (p1 : Option Addr) (c1 : Nat) (z : World) (v : Value) (X Y : Nat) : Prop where
  o1 : Own z w.heap.size 25 [.int .i64 d.kind, .int .i64 d.fn, .int .i64 d.axis, .string d.name, .slice d.np d.nums.length d.nc, .slice d.kp d.n d.kc]
  o2 : Own z X 25 [.int .i64 0, .int .i64 0, .int .i64 0, .string ⟨#[]⟩, .slice none 0 0, .slice none 0 0]
  o3 : Own z Y 25 [.int .i64 d.kind, .int .i64 d.fn, .int .i64 d.axis, .string d.name, .slice p1 d.nums.length c1, v]
  nums : d.nums = [] ∨ ∃ g, p1 = some ⟨g, 0, none⟩ ∧ w.heap.size + 3 ≤ g ∧ g < B ∧ Own z g 2 (d.nums.map (.int .i64))
  hB : w.heap.size + 3 ≤ B
  hz : B ≤ z.heap.size
  hX : X = w.heap.size + 1
  hY : Y = w.heap.size + 1 + 1
theorem RBox.turn {w : World} {d : TD} {B : Nat} {p1 : Option Addr} {c1 : Nat} {z z' : World} {v : Value} {X Y : Nat} (h : RBox w d B p1 c1 z v X Y) (hs : z.heap.size ≤ z'.heap.size) (hk : ∀ j, j < B → z'.heap[j]? = z.heap[j]?) : RBox w d B p1 c1 z' v X Y := by
  have hB := h.hB
  have hX := h.hX
  have hY := h.hY
  refine ⟨h.o1.block (hk _ (by omega)), h.o2.block (hk _ (by omega)), h.o3.block (hk _ (by omega)), ?_, hB, Nat.le_trans h.hz hs, hX, hY⟩
  rcases h.nums with h' | ⟨g, hp, h1, h2, ho⟩
  · exact .inl h'
  · exact .inr ⟨g, hp, h1, h2, ho.block (hk g h2)⟩
theorem RBox.keep {w : World} {d : TD} {B : Nat} {p1 : Option Addr} {c1 : Nat} {z z' : World} {v : Value} {X Y : Nat} (h : RBox w d B p1 c1 z v X Y) (hb : Below z.heap.size z z') : RBox w d B p1 c1 z' v X Y :=
  h.turn hb.size fun j hj => hb.block j (Nat.lt_of_lt_of_le hj h.hz)
theorem RBox.set {w : World} {d : TD} {B : Nat} {p1 : Option Addr} {c1 : Nat} {z : World} {v : Value} {X Y : Nat} (h : RBox w d B p1 c1 z v X Y) (u : Value) : RBox w d B p1 c1 (z.setCell ⟨Y, 5, none⟩ u) u X Y := by
  have hB := h.hB
  have hX := h.hX
  have hY := h.hY
  refine ⟨h.o1.other (by show Y ≠ w.heap.size; omega) u, h.o2.other (by show Y ≠ X; omega) u, h.o3.set (i := 5) (by simp) u, ?_, hB, by have := h.hz; simpa [World.setCell] using this, hX, hY⟩
  rcases h.nums with h' | ⟨g, hp, h1, h2, ho⟩
  · exact .inl h'
  · exact .inr ⟨g, hp, h1, h2, ho.other (by show Y ≠ g; omega) u⟩

structure HG (p : Prop) : Prop where
  out : p
theorem hideG {p : Prop} (h : HG p) : p := h.out
theorem unhideG {p : Prop} (h : p) : HG p := ⟨h⟩

set_option maxHeartbeats 4000000 in
theorem RCopy_step (d : TD) (kids : Nat → TV) (ih : ∀ i w, sizeT (kids i) ≤ 1000000 → numsT (kids i) ≤ 1000000 → TreeIn w (kids i) → Calls Try.prog 23 #[.agg #[.int .i64 (kids i).d.kind, .int .i64 (kids i).d.fn, .int .i64 (kids i).d.axis, .string (kids i).d.name, .slice (kids i).d.np (kids i).d.nums.length (kids i).d.nc, .slice (kids i).d.kp (kids i).d.n (kids i).d.kc]] w (CopyRet w (kids i)))
    (w : World) (hs : sizeT (.mk d kids) ≤ 1000000) (hm : numsT (.mk d kids) ≤ 1000000) (h : TreeIn w (.mk d kids)) : Calls Try.prog 23 #[.agg #[.int .i64 d.kind, .int .i64 d.fn, .int .i64 d.axis, .string d.name, .slice d.np d.nums.length d.nc, .slice d.kp d.n d.kc]] w (CopyRet w (.mk d kids)) := by
  obtain ⟨W, X, Y, hX, hY, hW, oA, oX, oY, hb, hsz⟩ := rcopy_boxes w d
  have hlen : d.nums.length ≤ 1000000 := by simp only [numsT] at hm; omega
  have hn : d.n ≤ 1000000 := Nat.le_trans (kids_le d kids) hs
  have HT := Lib.hid h
  have H64 := Lib.hid h.nums.i64
  have hnc := (h.keep (below_t hb (below_alloc W (.cells #[] 2)))).nums.cells
  have IH := Lib.hid ih
  have HS : Hid (sizeT (.mk d kids) ≤ 1000000 ∧ numsT (.mk d kids) ≤ 1000000 ∧ d.nums.length ≤ 1000000 ∧ d.n ≤ 1000000) := ⟨hs, hm, hlen, hn⟩
  have HW := Lib.hid hW
  have HX : Hid (X = w.heap.size + 1 ∧ Y = w.heap.size + 1 + 1 ∧ W.heap.size = w.heap.size + 3) := ⟨hX, hY, hsz⟩
  have HB := Lib.hid hb
  have HA := Lib.hid oA
  have HO := Lib.hid oX
  have HO3 := Lib.hid oY
  have HNC := Lib.hid hnc
  have hA4 := oA.cell (i := 4) rfl
  have HL : Hid ((W.alloc (.cells #[] 2)).ownsRow (w.heap.size + 3) 2 1 (.slice (some ⟨Y + 1, 0, none⟩) 0 0) 0 []) := by
    have e : Y + 1 = W.heap.size := by omega
    rw [Hid, e]
    exact World.ownsRow_lit W #[] 0 (by omega) (by decide) rfl
  have HX' := Lib.hid hX
  have HY' := Lib.hid hY
  clear hW hX oA oX hb hsz hs hm hn h ih oY hY hnc
  go_enter Try.func23, Try.ntmps23
  go_wp2_with (at_builtin; refine hideG ?_)
  refine unhideG ?_
  rw [HW.out, ← HY'.out, ← HX'.out]
  refine append_i64s rfl (.tmp 6) (.tmp 8) rfl (w.heap.size + 3) (.slice (some ⟨Y + 1, 0, none⟩) 0 0) 0 [] rfl HL.out d.np d.nc d.nums rfl HNC.out (by omega) (by have := HX.out; simp; omega) ?_
  intro v1 w1 r1 g1
  rw [List.nil_append, Nat.zero_add] at r1
  obtain ⟨p1, c1, rfl, hnew⟩ := row_new r1
  have hX := HX.out
  have ne : ∀ j, j < w.heap.size + 3 → some j ≠ (Value.slice (some ⟨Y + 1, 0, none⟩) 0 0).ownBlock := by
    intro j hj e
    have e' : j = Y + 1 := by simpa [Value.ownBlock] using e
    omega
  have q1 := (HA.out.keep (below_alloc W (.cells #[] 2)) HA.out.lt).grown g1 (ne _ (by omega))
  have q2 := (HO.out.keep (below_alloc W (.cells #[] 2)) HO.out.lt).grown g1 (ne _ (by omega))
  have q3 := (HO3.out.keep (below_alloc W (.cells #[] 2)) HO3.out.lt).grown g1 (ne _ (by omega))
  have hb1 : Below w.heap.size w w1 := (below_t HB.out (below_alloc W (.cells #[] 2))).grown g1 (by simp; omega) fun j e => by cases e; show w.heap.size ≤ Y + 1; omega
  have q3' := q3.set (i := 4) (by simp) (.slice p1 d.nums.length c1)
  have z4 := q3.cell (i := 4) rfl
  have f4 := q3.frozen 4
  have z5 := q3'.cell (i := 5) rfl
  have f5 := q3'.frozen 5
  obtain ⟨W1, hW1⟩ : ∃ W1, (w1.setCell ⟨Y, 4, none⟩ (.slice p1 d.nums.length c1)).setCell ⟨Y, 5, none⟩ (.slice none 0 0) = W1 := ⟨_, rfl⟩
  have hz1 : W1.heap.size = w1.heap.size := by rw [← hW1]; simp [World.setCell]
  have hg1 := g1.size
  have HR : Hid (RBox w d W1.heap.size p1 c1 W1 (.slice none 0 0) X Y) := by
    refine ⟨?_, ?_, ?_, ?_, by simp at hg1; omega, Nat.le_refl _, hX.1, hX.2.1⟩
    · rw [← hW1]; exact (q1.other (by show Y ≠ w.heap.size; omega) _).other (by show Y ≠ w.heap.size; omega) _
    · rw [← hW1]; exact (q2.other (by show Y ≠ X; omega) _).other (by show Y ≠ X; omega) _
    · rw [← hW1]; exact q3'.set (i := 5) (by simp) _
    · rcases hnew with h' | ⟨g, hp, hg, ho⟩
      · exact .inl (by simpa using h')
      · refine .inr ⟨g, hp, hg, by have := ho.lt; omega, ?_⟩
        rw [← hW1]; exact (ho.other (by show Y ≠ g; omega) _).other (by show Y ≠ g; omega) _
  have HBW : Hid (Below w.heap.size w W1) := by rw [Hid, ← hW1]; exact (hb1.setCell (p := ⟨Y, 4, none⟩) (by show w.heap.size ≤ Y; omega) _).setCell (p := ⟨Y, 5, none⟩) (by show w.heap.size ≤ Y; omega) _
  have HW1 := Lib.hid hW1
  have hlm : (d.nums.map (Value.int .i64)).length = d.nums.length := by simp
  rw [hlm]
  clear q1 q2 q3 q3' hnew r1 g1 hb1 hW1 hz1 hg1 ne hX hlm hA4
  go_wp2_with fail
  rw [HW1.out]
  clear HW1 z4 f4 z5 f5 HW HNC HL HA HO HO3 HB HX' HY'
  go_loopw [4] (fun i wr => ∃ (k : Nat) (ks : List TV) (v : Value) (wz : World), wz = wr ∧ k ≤ d.n ∧ i = .int .i64 k ∧ Hid (CopI w.heap.size W1.heap.size kids k w wz v ks) ∧ Hid (RBox w d W1.heap.size p1 c1 wz v X Y)) (fun i _ => d.n - (intOf i).toNat)
  case atStart => exact ⟨0, [], _, W1, rfl, Nat.zero_le _, rfl, CopI.start _ _ _ _ _ HBW.out (by have := HR.out.hB; omega) (Nat.le_refl _), HR.out⟩
  case round =>
    obtain ⟨k, ks, v, wz, rfl, hk, rfl, HI, HRz⟩ := hrel
    have hn := HS.out.2.2.2
    have hA5 := HRz.out.o1.cell (i := 5) rfl
    by_cases hlt : k < d.n
    · have hi1 : (k : Int) < (d.n : Int) := by omega
      obtain ⟨⟨g, o, ekp, hg, N⟩, hTk⟩ := HT.out.kid hlt
      have c0 := N.c0
      have c1 := N.c1
      have c2 := N.c2
      have c3 := N.c3
      have c4 := N.c4
      have c5 := N.c5
      have HTk := Lib.hid hTk
      have HSk : Hid (sizeT (kids k) ≤ 1000000 ∧ numsT (kids k) ≤ 1000000) := ⟨by have := sizeT_kid (kids := kids) hlt; have := HS.out.1; omega, by have := numsT_kid (kids := kids) hlt; have := HS.out.2.1; omega⟩
      have hkl := HI.out.len
      have hYlo : w.heap.size ≤ Y := by have := HX.out; omega
      have hYhi : Y < W1.heap.size := by have := HX.out; have := HRz.out.hB; omega
      have t0 := HRz.out.o3.cell (i := 5) rfl
      have hS : (fun z => Below w.heap.size w z ∧ Own z w.heap.size 25 [.int .i64 d.kind, .int .i64 d.fn, .int .i64 d.axis, .string d.name, .slice d.np d.nums.length d.nc, .slice d.kp d.n d.kc]) wz := ⟨HI.out.below, HRz.out.o1⟩
      have hKS : Keeps (fun z => Below w.heap.size w z ∧ Own z w.heap.size 25 [.int .i64 d.kind, .int .i64 d.fn, .int .i64 d.axis, .string d.name, .slice d.np d.nums.length d.nc, .slice d.kp d.n d.kc]) := fun a b ⟨h1, h2⟩ hb => ⟨below_t h1 hb, h2.keep hb h2.lt⟩
      have HE := Lib.hid ekp
      clear N hTk ekp
      go_wp2_with fail
      refine wp_region_noPanic ?_
      refine wp_region_held_drew (S := (fun z => Below w.heap.size w z ∧ Own z w.heap.size 25 [.int .i64 d.kind, .int .i64 d.fn, .int .i64 d.axis, .string d.name, .slice d.np d.nums.length d.nc, .slice d.kp d.n d.kc])) (by kernel_rfl) ?_ (fun hHeld => ?_)
      · (try dsimp only); first | exact hS6 | exact hS5 | exact hKS _ _ (by first | exact hHeld | exact hS) (by first | assumption | (go_grown; done) | (refine from_drew ?_; go_grown; done))
      refine takeH 0 (some 19) (v := ?_) rfl rfl (by kernel_rfl) (by kernel_rfl) (by kernel_rfl) (by rfl) ?_ (by exact hHeld) ?_
      rotate_left
      · intro w hSw; (try dsimp only at hSw); obtain ⟨e1, e2⟩ := hSw; have q5 := e2.cell (i := 5) rfl; rw [HE.out] at q5; have q0 := (e1.cell (p := ⟨g, o + k * 6, none⟩) hg).trans c0; have q1 := (e1.cell (p := ⟨g, o + k * 6 + 1, none⟩) hg).trans c1; have q2 := (e1.cell (p := ⟨g, o + k * 6 + 2, none⟩) hg).trans c2; have q3 := (e1.cell (p := ⟨g, o + k * 6 + 3, none⟩) hg).trans c3; have q4 := (e1.cell (p := ⟨g, o + k * 6 + 4, none⟩) hg).trans c4; have q6 := (e1.cell (p := ⟨g, o + k * 6 + 5, none⟩) hg).trans c5; go_simp; try (with_reducible rfl)
      try simp only [Act.put, List.setIfInBounds_toArray, List.set_cons_zero, List.set_cons_succ]
      refine takeH 2 (some 21) (v := ?_) rfl rfl (by kernel_rfl) (by kernel_rfl) (by kernel_rfl) (by rfl) ?_ (by exact hHeld) ?_
      rotate_left
      · intro w hSw; (try dsimp only at hSw); obtain ⟨e1, e2⟩ := hSw; have q5 := e2.cell (i := 5) rfl; rw [HE.out] at q5; have q0 := (e1.cell (p := ⟨g, o + k * 6, none⟩) hg).trans c0; have q1 := (e1.cell (p := ⟨g, o + k * 6 + 1, none⟩) hg).trans c1; have q2 := (e1.cell (p := ⟨g, o + k * 6 + 2, none⟩) hg).trans c2; have q3 := (e1.cell (p := ⟨g, o + k * 6 + 3, none⟩) hg).trans c3; have q4 := (e1.cell (p := ⟨g, o + k * 6 + 4, none⟩) hg).trans c4; have q6 := (e1.cell (p := ⟨g, o + k * 6 + 5, none⟩) hg).trans c5; go_simp; try (with_reducible rfl)
      try simp only [Act.put, List.setIfInBounds_toArray, List.set_cons_zero, List.set_cons_succ]
      refine takeH 3 (some 22) (v := ?_) rfl rfl (by kernel_rfl) (by kernel_rfl) (by kernel_rfl) (by rfl) ?_ (by exact hHeld) ?_
      rotate_left
      · intro w hSw; (try dsimp only at hSw); obtain ⟨e1, e2⟩ := hSw; have q5 := e2.cell (i := 5) rfl; rw [HE.out] at q5; have q0 := (e1.cell (p := ⟨g, o + k * 6, none⟩) hg).trans c0; have q1 := (e1.cell (p := ⟨g, o + k * 6 + 1, none⟩) hg).trans c1; have q2 := (e1.cell (p := ⟨g, o + k * 6 + 2, none⟩) hg).trans c2; have q3 := (e1.cell (p := ⟨g, o + k * 6 + 3, none⟩) hg).trans c3; have q4 := (e1.cell (p := ⟨g, o + k * 6 + 4, none⟩) hg).trans c4; have q6 := (e1.cell (p := ⟨g, o + k * 6 + 5, none⟩) hg).trans c5; go_simp; try (with_reducible rfl)
      try simp only [Act.put, List.setIfInBounds_toArray, List.set_cons_zero, List.set_cons_succ]
      refine takeH 4 (some 23) (v := ?_) rfl rfl (by kernel_rfl) (by kernel_rfl) (by kernel_rfl) (by rfl) ?_ (by exact hHeld) ?_
      rotate_left
      · intro w hSw; (try dsimp only at hSw); obtain ⟨e1, e2⟩ := hSw; have q5 := e2.cell (i := 5) rfl; rw [HE.out] at q5; have q0 := (e1.cell (p := ⟨g, o + k * 6, none⟩) hg).trans c0; have q1 := (e1.cell (p := ⟨g, o + k * 6 + 1, none⟩) hg).trans c1; have q2 := (e1.cell (p := ⟨g, o + k * 6 + 2, none⟩) hg).trans c2; have q3 := (e1.cell (p := ⟨g, o + k * 6 + 3, none⟩) hg).trans c3; have q4 := (e1.cell (p := ⟨g, o + k * 6 + 4, none⟩) hg).trans c4; have q6 := (e1.cell (p := ⟨g, o + k * 6 + 5, none⟩) hg).trans c5; go_simp; try (with_reducible rfl)
      try simp only [Act.put, List.setIfInBounds_toArray, List.set_cons_zero, List.set_cons_succ]
      refine takeH 5 (some 24) (v := ?_) rfl rfl (by kernel_rfl) (by kernel_rfl) (by kernel_rfl) (by rfl) ?_ (by exact hHeld) ?_
      rotate_left
      · intro w hSw; (try dsimp only at hSw); obtain ⟨e1, e2⟩ := hSw; have q5 := e2.cell (i := 5) rfl; rw [HE.out] at q5; have q0 := (e1.cell (p := ⟨g, o + k * 6, none⟩) hg).trans c0; have q1 := (e1.cell (p := ⟨g, o + k * 6 + 1, none⟩) hg).trans c1; have q2 := (e1.cell (p := ⟨g, o + k * 6 + 2, none⟩) hg).trans c2; have q3 := (e1.cell (p := ⟨g, o + k * 6 + 3, none⟩) hg).trans c3; have q4 := (e1.cell (p := ⟨g, o + k * 6 + 4, none⟩) hg).trans c4; have q6 := (e1.cell (p := ⟨g, o + k * 6 + 5, none⟩) hg).trans c5; go_simp; try (with_reducible rfl)
      try simp only [Act.put, List.setIfInBounds_toArray, List.set_cons_zero, List.set_cons_succ]
      refine takeH 6 (some 25) (v := ?_) rfl rfl (by kernel_rfl) (by kernel_rfl) (by kernel_rfl) (by rfl) ?_ (by exact hHeld) ?_
      rotate_left
      · intro w hSw; (try dsimp only at hSw); obtain ⟨e1, e2⟩ := hSw; have q5 := e2.cell (i := 5) rfl; rw [HE.out] at q5; have q0 := (e1.cell (p := ⟨g, o + k * 6, none⟩) hg).trans c0; have q1 := (e1.cell (p := ⟨g, o + k * 6 + 1, none⟩) hg).trans c1; have q2 := (e1.cell (p := ⟨g, o + k * 6 + 2, none⟩) hg).trans c2; have q3 := (e1.cell (p := ⟨g, o + k * 6 + 3, none⟩) hg).trans c3; have q4 := (e1.cell (p := ⟨g, o + k * 6 + 4, none⟩) hg).trans c4; have q6 := (e1.cell (p := ⟨g, o + k * 6 + 5, none⟩) hg).trans c5; go_simp; try (with_reducible rfl)
      try simp only [Act.put, List.setIfInBounds_toArray, List.set_cons_zero, List.set_cons_succ]
      refine wpAnyH_ready (rs := [1, 7]) (by kernel_rfl) (by simp) ?_
      refine stepH 1 rfl (by rfl) (fun K hK => ?_) ?_
      · go_simp
        refine hK.out _ _ ?_ (fun hNew => ?_)
        · (try dsimp only); first | exact hS6 | exact hS5 | exact hKS _ _ (by first | exact hHeld | exact hS) (by first | assumption | (go_grown; done) | (refine from_drew ?_; go_grown; done))
        clear hK K hHeld
        have hHeld := hNew
        clear hNew
        try dsimp only at hHeld
        try simp only [Act.put, List.setIfInBounds_toArray, List.set_cons_zero, List.set_cons_succ]
        refine wpAnyH_ready (rs := [7]) (by kernel_rfl) (by simp) ?_
        refine stepH 7 rfl (by rfl) (fun K hK => ?_) ?_
        · go_simp
          ((with_reducible refine (IH.out k _ HSk.out.1 HSk.out.2 ?_).mono ?_); (exact HTk.out.keep hHeld.1); rintro e4 w4 ⟨t', rfl, hTS, hsame, hb4⟩; have hb4' : Below wz.heap.size wz w4 := below_t ((Below.refl _ wz).drew) hb4; have HR4 := Lib.hid (HRz.out.keep hb4'); have t04 := HR4.out.o3.cell (i := 5) rfl; have hl4 := HR4.out.o3.lt; have hn4 : Y ≠ w4.heap.size := (by omega); have HN := Lib.hid (fun z2 g cap => HI.out.next (z2 := z2) (g := g) (cap := cap) hb4' (Nat.le_refl _) hTS hsame (o := .cells #[.int .i64 t'.d.kind, .int .i64 t'.d.fn, .int .i64 t'.d.axis, .string t'.d.name, .slice t'.d.np t'.d.nums.length t'.d.nc, .slice t'.d.kp t'.d.n t'.d.kc] 25)); have HROW := Lib.hid ((HI.out.keep hb4').row.alloc (.cells #[.int .i64 t'.d.kind, .int .i64 t'.d.fn, .int .i64 t'.d.axis, .string t'.d.name, .slice t'.d.np t'.d.nums.length t'.d.nc, .slice t'.d.kp t'.d.n t'.d.kc] 25)); have hbase := (HI.out.keep hb4').base; clear hTS hsame)
          refine hK.out _ _ ?_ (fun hNew => ?_)
          · (try dsimp only); first | exact hS6 | exact hS5 | exact hKS _ _ (by first | exact hHeld | exact hS) (by first | assumption | (go_grown; done) | (refine from_drew ?_; go_grown; done))
          clear hK K hHeld
          have hHeld := hNew
          clear hNew
          try dsimp only at hHeld
          try simp only [Act.put, List.setIfInBounds_toArray, List.set_cons_zero, List.set_cons_succ]
          refine wpAnyH_ready (rs := [8]) (by kernel_rfl) (by simp) ?_
          refine stepH 8 rfl (by rfl) (fun K hK => ?_) ?_
          · go_simp
            refine hK.out _ _ ?_ (fun hNew => ?_)
            · (try dsimp only); first | exact hS6 | exact hS5 | exact hKS _ _ (by first | exact hHeld | exact hS) (by first | assumption | (go_grown; done) | (refine from_drew ?_; go_grown; done))
            clear hK K hHeld
            have hHeld := hNew
            clear hNew
            try dsimp only at hHeld
            try simp only [Act.put, List.setIfInBounds_toArray, List.set_cons_zero, List.set_cons_succ]
            refine wpAnyH_ready (rs := [9]) (by kernel_rfl) (by simp) ?_
            refine stepH 9 rfl (by rfl) (fun K hK => ?_) ?_
            · (refine wp_append_node _ _ rfl W1.heap.size v ks k hkl rfl HROW.out w4.heap.size t' rfl (heap_alloc_new w4 _) (by omega) (by simp; omega) ?_); intro g5 cap5 w5 o5 hg5 hl5; have HI5 := Lib.hid (HN.out w5 g5 cap5 o5 hg5 hl5); have HR5 := Lib.hid (HR4.out.turn (by have := hg5.size; simp at this; omega) (fun j hj => (hg5.block j (by simp; omega) (fun e => by have := (row_lt HROW.out e.symm).1; omega)).trans (Below.heap_alloc w4 _ j (by omega)))); have hS5 : (fun z => Below w.heap.size w z ∧ Own z w.heap.size 25 [.int .i64 d.kind, .int .i64 d.fn, .int .i64 d.axis, .string d.name, .slice d.np d.nums.length d.nc, .slice d.kp d.n d.kc]) w5 := ⟨HI5.out.below, HR5.out.o1⟩; have c50 := HR5.out.o3.cell (i := 5) rfl; have f50 := HR5.out.o3.frozen 5; have HR6 := Lib.hid (HR5.out.set (.slice (some ⟨g5, 0, none⟩) (k + 1) cap5)); have HI6 := Lib.hid (HI5.out.set Y 5 hYlo hYhi (.slice (some ⟨g5, 0, none⟩) (k + 1) cap5)); have hS6 : (fun z => Below w.heap.size w z ∧ Own z w.heap.size 25 [.int .i64 d.kind, .int .i64 d.fn, .int .i64 d.axis, .string d.name, .slice d.np d.nums.length d.nc, .slice d.kp d.n d.kc]) (w5.setCell ⟨Y, 5, none⟩ (.slice (some ⟨g5, 0, none⟩) (k + 1) cap5)) := ⟨HI6.out.below, HR6.out.o1⟩; clear o5 hg5 hl5 HN
              refine hK.out _ _ ?_ (fun hNew => ?_)
              · (try dsimp only); first | exact hS6 | exact hS5 | exact hKS _ _ (by first | exact hHeld | exact hS) (by first | assumption | (go_grown; done) | (refine from_drew ?_; go_grown; done))
              clear hK K hHeld
              have hHeld := hNew
              clear hNew
              try dsimp only at hHeld
              try simp only [Act.put, List.setIfInBounds_toArray, List.set_cons_zero, List.set_cons_succ]
              refine takeH 10 (some 29) (v := ?_) rfl rfl (by kernel_rfl) (by kernel_rfl) (by kernel_rfl) (by rfl) ?_ (by exact hHeld) ?_
              rotate_left
              · intro w hSw; (try dsimp only at hSw); obtain ⟨e1, e2⟩ := hSw; have q5 := e2.cell (i := 5) rfl; rw [HE.out] at q5; have q0 := (e1.cell (p := ⟨g, o + k * 6, none⟩) hg).trans c0; have q1 := (e1.cell (p := ⟨g, o + k * 6 + 1, none⟩) hg).trans c1; have q2 := (e1.cell (p := ⟨g, o + k * 6 + 2, none⟩) hg).trans c2; have q3 := (e1.cell (p := ⟨g, o + k * 6 + 3, none⟩) hg).trans c3; have q4 := (e1.cell (p := ⟨g, o + k * 6 + 4, none⟩) hg).trans c4; have q6 := (e1.cell (p := ⟨g, o + k * 6 + 5, none⟩) hg).trans c5; go_simp; try (with_reducible rfl)
              try simp only [Act.put, List.setIfInBounds_toArray, List.set_cons_zero, List.set_cons_succ]
              refine wpAnyH_ready (rs := [11]) (by kernel_rfl) (by simp) ?_
              refine stepH 11 rfl (by rfl) (fun K hK => ?_) ?_
              · go_simp
                refine hK.out _ _ ?_ (fun hNew => ?_)
                · (try dsimp only); first | exact hS6 | exact hS5 | exact hKS _ _ (by first | exact hHeld | exact hS) (by first | assumption | (go_grown; done) | (refine from_drew ?_; go_grown; done))
                clear hK K hHeld
                have hHeld := hNew
                clear hNew
                try dsimp only at hHeld
                try simp only [Act.put, List.setIfInBounds_toArray, List.set_cons_zero, List.set_cons_succ]
                refine wpAnyH_done (by kernel_rfl) ?_ _
                refine NoPanic.normal ?_
                clear hHeld hS5 hS6 c50 f50
                go_wp2_with fail
                go_roundw
                case rel => exact ⟨k + 1, ks ++ [t'], _, _, rfl, by omega, by go_num, HI6, HR6⟩
                case measure => simp [intOf]; omega
              exact AllReadyH.nil
            exact AllReadyH.nil
          exact AllReadyH.nil
        exact AllReadyH.nil
      refine stepH 7 rfl (by rfl) (fun K hK => ?_) ?_
      · go_simp
        ((with_reducible refine (IH.out k _ HSk.out.1 HSk.out.2 ?_).mono ?_); (exact HTk.out.keep hHeld.1); rintro e4 w4 ⟨t', rfl, hTS, hsame, hb4⟩; have hb4' : Below wz.heap.size wz w4 := below_t ((Below.refl _ wz).drew) hb4; have HR4 := Lib.hid (HRz.out.keep hb4'); have t04 := HR4.out.o3.cell (i := 5) rfl; have hl4 := HR4.out.o3.lt; have hn4 : Y ≠ w4.heap.size := (by omega); have HN := Lib.hid (fun z2 g cap => HI.out.next (z2 := z2) (g := g) (cap := cap) hb4' (Nat.le_refl _) hTS hsame (o := .cells #[.int .i64 t'.d.kind, .int .i64 t'.d.fn, .int .i64 t'.d.axis, .string t'.d.name, .slice t'.d.np t'.d.nums.length t'.d.nc, .slice t'.d.kp t'.d.n t'.d.kc] 25)); have HROW := Lib.hid ((HI.out.keep hb4').row.alloc (.cells #[.int .i64 t'.d.kind, .int .i64 t'.d.fn, .int .i64 t'.d.axis, .string t'.d.name, .slice t'.d.np t'.d.nums.length t'.d.nc, .slice t'.d.kp t'.d.n t'.d.kc] 25)); have hbase := (HI.out.keep hb4').base; clear hTS hsame)
        refine hK.out _ _ ?_ (fun hNew => ?_)
        · (try dsimp only); first | exact hS6 | exact hS5 | exact hKS _ _ (by first | exact hHeld | exact hS) (by first | assumption | (go_grown; done) | (refine from_drew ?_; go_grown; done))
        clear hK K hHeld
        have hHeld := hNew
        clear hNew
        try dsimp only at hHeld
        try simp only [Act.put, List.setIfInBounds_toArray, List.set_cons_zero, List.set_cons_succ]
        refine wpAnyH_ready (rs := [1, 8]) (by kernel_rfl) (by simp) ?_
        refine stepH 1 rfl (by rfl) (fun K hK => ?_) ?_
        · go_simp
          refine hK.out _ _ ?_ (fun hNew => ?_)
          · (try dsimp only); first | exact hS6 | exact hS5 | exact hKS _ _ (by first | exact hHeld | exact hS) (by first | assumption | (go_grown; done) | (refine from_drew ?_; go_grown; done))
          clear hK K hHeld
          have hHeld := hNew
          clear hNew
          try dsimp only at hHeld
          try simp only [Act.put, List.setIfInBounds_toArray, List.set_cons_zero, List.set_cons_succ]
          refine wpAnyH_ready (rs := [8]) (by kernel_rfl) (by simp) ?_
          refine stepH 8 rfl (by rfl) (fun K hK => ?_) ?_
          · go_simp
            refine hK.out _ _ ?_ (fun hNew => ?_)
            · (try dsimp only); first | exact hS6 | exact hS5 | exact hKS _ _ (by first | exact hHeld | exact hS) (by first | assumption | (go_grown; done) | (refine from_drew ?_; go_grown; done))
            clear hK K hHeld
            have hHeld := hNew
            clear hNew
            try dsimp only at hHeld
            try simp only [Act.put, List.setIfInBounds_toArray, List.set_cons_zero, List.set_cons_succ]
            refine wpAnyH_ready (rs := [9]) (by kernel_rfl) (by simp) ?_
            refine stepH 9 rfl (by rfl) (fun K hK => ?_) ?_
            · (refine wp_append_node _ _ rfl W1.heap.size v ks k hkl rfl HROW.out w4.heap.size t' rfl (heap_alloc_new w4 _) (by omega) (by simp; omega) ?_); intro g5 cap5 w5 o5 hg5 hl5; have HI5 := Lib.hid (HN.out w5 g5 cap5 o5 hg5 hl5); have HR5 := Lib.hid (HR4.out.turn (by have := hg5.size; simp at this; omega) (fun j hj => (hg5.block j (by simp; omega) (fun e => by have := (row_lt HROW.out e.symm).1; omega)).trans (Below.heap_alloc w4 _ j (by omega)))); have hS5 : (fun z => Below w.heap.size w z ∧ Own z w.heap.size 25 [.int .i64 d.kind, .int .i64 d.fn, .int .i64 d.axis, .string d.name, .slice d.np d.nums.length d.nc, .slice d.kp d.n d.kc]) w5 := ⟨HI5.out.below, HR5.out.o1⟩; have c50 := HR5.out.o3.cell (i := 5) rfl; have f50 := HR5.out.o3.frozen 5; have HR6 := Lib.hid (HR5.out.set (.slice (some ⟨g5, 0, none⟩) (k + 1) cap5)); have HI6 := Lib.hid (HI5.out.set Y 5 hYlo hYhi (.slice (some ⟨g5, 0, none⟩) (k + 1) cap5)); have hS6 : (fun z => Below w.heap.size w z ∧ Own z w.heap.size 25 [.int .i64 d.kind, .int .i64 d.fn, .int .i64 d.axis, .string d.name, .slice d.np d.nums.length d.nc, .slice d.kp d.n d.kc]) (w5.setCell ⟨Y, 5, none⟩ (.slice (some ⟨g5, 0, none⟩) (k + 1) cap5)) := ⟨HI6.out.below, HR6.out.o1⟩; clear o5 hg5 hl5 HN
              refine hK.out _ _ ?_ (fun hNew => ?_)
              · (try dsimp only); first | exact hS6 | exact hS5 | exact hKS _ _ (by first | exact hHeld | exact hS) (by first | assumption | (go_grown; done) | (refine from_drew ?_; go_grown; done))
              clear hK K hHeld
              have hHeld := hNew
              clear hNew
              try dsimp only at hHeld
              try simp only [Act.put, List.setIfInBounds_toArray, List.set_cons_zero, List.set_cons_succ]
              refine takeH 10 (some 29) (v := ?_) rfl rfl (by kernel_rfl) (by kernel_rfl) (by kernel_rfl) (by rfl) ?_ (by exact hHeld) ?_
              rotate_left
              · intro w hSw; (try dsimp only at hSw); obtain ⟨e1, e2⟩ := hSw; have q5 := e2.cell (i := 5) rfl; rw [HE.out] at q5; have q0 := (e1.cell (p := ⟨g, o + k * 6, none⟩) hg).trans c0; have q1 := (e1.cell (p := ⟨g, o + k * 6 + 1, none⟩) hg).trans c1; have q2 := (e1.cell (p := ⟨g, o + k * 6 + 2, none⟩) hg).trans c2; have q3 := (e1.cell (p := ⟨g, o + k * 6 + 3, none⟩) hg).trans c3; have q4 := (e1.cell (p := ⟨g, o + k * 6 + 4, none⟩) hg).trans c4; have q6 := (e1.cell (p := ⟨g, o + k * 6 + 5, none⟩) hg).trans c5; go_simp; try (with_reducible rfl)
              try simp only [Act.put, List.setIfInBounds_toArray, List.set_cons_zero, List.set_cons_succ]
              refine wpAnyH_ready (rs := [11]) (by kernel_rfl) (by simp) ?_
              refine stepH 11 rfl (by rfl) (fun K hK => ?_) ?_
              · go_simp
                refine hK.out _ _ ?_ (fun hNew => ?_)
                · (try dsimp only); first | exact hS6 | exact hS5 | exact hKS _ _ (by first | exact hHeld | exact hS) (by first | assumption | (go_grown; done) | (refine from_drew ?_; go_grown; done))
                clear hK K hHeld
                have hHeld := hNew
                clear hNew
                try dsimp only at hHeld
                try simp only [Act.put, List.setIfInBounds_toArray, List.set_cons_zero, List.set_cons_succ]
                refine wpAnyH_done (by kernel_rfl) ?_ _
                refine NoPanic.normal ?_
                clear hHeld hS5 hS6 c50 f50
                go_wp2_with fail
                go_roundw
                case rel => exact ⟨k + 1, ks ++ [t'], _, _, rfl, by omega, by go_num, HI6, HR6⟩
                case measure => simp [intOf]; omega
              exact AllReadyH.nil
            exact AllReadyH.nil
          exact AllReadyH.nil
        refine stepH 8 rfl (by rfl) (fun K hK => ?_) ?_
        · go_simp
          refine hK.out _ _ ?_ (fun hNew => ?_)
          · (try dsimp only); first | exact hS6 | exact hS5 | exact hKS _ _ (by first | exact hHeld | exact hS) (by first | assumption | (go_grown; done) | (refine from_drew ?_; go_grown; done))
          clear hK K hHeld
          have hHeld := hNew
          clear hNew
          try dsimp only at hHeld
          try simp only [Act.put, List.setIfInBounds_toArray, List.set_cons_zero, List.set_cons_succ]
          refine wpAnyH_ready (rs := [1]) (by kernel_rfl) (by simp) ?_
          refine stepH 1 rfl (by rfl) (fun K hK => ?_) ?_
          · go_simp
            refine hK.out _ _ ?_ (fun hNew => ?_)
            · (try dsimp only); first | exact hS6 | exact hS5 | exact hKS _ _ (by first | exact hHeld | exact hS) (by first | assumption | (go_grown; done) | (refine from_drew ?_; go_grown; done))
            clear hK K hHeld
            have hHeld := hNew
            clear hNew
            try dsimp only at hHeld
            try simp only [Act.put, List.setIfInBounds_toArray, List.set_cons_zero, List.set_cons_succ]
            refine wpAnyH_ready (rs := [9]) (by kernel_rfl) (by simp) ?_
            refine stepH 9 rfl (by rfl) (fun K hK => ?_) ?_
            · (refine wp_append_node _ _ rfl W1.heap.size v ks k hkl rfl HROW.out w4.heap.size t' rfl (heap_alloc_new w4 _) (by omega) (by simp; omega) ?_); intro g5 cap5 w5 o5 hg5 hl5; have HI5 := Lib.hid (HN.out w5 g5 cap5 o5 hg5 hl5); have HR5 := Lib.hid (HR4.out.turn (by have := hg5.size; simp at this; omega) (fun j hj => (hg5.block j (by simp; omega) (fun e => by have := (row_lt HROW.out e.symm).1; omega)).trans (Below.heap_alloc w4 _ j (by omega)))); have hS5 : (fun z => Below w.heap.size w z ∧ Own z w.heap.size 25 [.int .i64 d.kind, .int .i64 d.fn, .int .i64 d.axis, .string d.name, .slice d.np d.nums.length d.nc, .slice d.kp d.n d.kc]) w5 := ⟨HI5.out.below, HR5.out.o1⟩; have c50 := HR5.out.o3.cell (i := 5) rfl; have f50 := HR5.out.o3.frozen 5; have HR6 := Lib.hid (HR5.out.set (.slice (some ⟨g5, 0, none⟩) (k + 1) cap5)); have HI6 := Lib.hid (HI5.out.set Y 5 hYlo hYhi (.slice (some ⟨g5, 0, none⟩) (k + 1) cap5)); have hS6 : (fun z => Below w.heap.size w z ∧ Own z w.heap.size 25 [.int .i64 d.kind, .int .i64 d.fn, .int .i64 d.axis, .string d.name, .slice d.np d.nums.length d.nc, .slice d.kp d.n d.kc]) (w5.setCell ⟨Y, 5, none⟩ (.slice (some ⟨g5, 0, none⟩) (k + 1) cap5)) := ⟨HI6.out.below, HR6.out.o1⟩; clear o5 hg5 hl5 HN
              refine hK.out _ _ ?_ (fun hNew => ?_)
              · (try dsimp only); first | exact hS6 | exact hS5 | exact hKS _ _ (by first | exact hHeld | exact hS) (by first | assumption | (go_grown; done) | (refine from_drew ?_; go_grown; done))
              clear hK K hHeld
              have hHeld := hNew
              clear hNew
              try dsimp only at hHeld
              try simp only [Act.put, List.setIfInBounds_toArray, List.set_cons_zero, List.set_cons_succ]
              refine takeH 10 (some 29) (v := ?_) rfl rfl (by kernel_rfl) (by kernel_rfl) (by kernel_rfl) (by rfl) ?_ (by exact hHeld) ?_
              rotate_left
              · intro w hSw; (try dsimp only at hSw); obtain ⟨e1, e2⟩ := hSw; have q5 := e2.cell (i := 5) rfl; rw [HE.out] at q5; have q0 := (e1.cell (p := ⟨g, o + k * 6, none⟩) hg).trans c0; have q1 := (e1.cell (p := ⟨g, o + k * 6 + 1, none⟩) hg).trans c1; have q2 := (e1.cell (p := ⟨g, o + k * 6 + 2, none⟩) hg).trans c2; have q3 := (e1.cell (p := ⟨g, o + k * 6 + 3, none⟩) hg).trans c3; have q4 := (e1.cell (p := ⟨g, o + k * 6 + 4, none⟩) hg).trans c4; have q6 := (e1.cell (p := ⟨g, o + k * 6 + 5, none⟩) hg).trans c5; go_simp; try (with_reducible rfl)
              try simp only [Act.put, List.setIfInBounds_toArray, List.set_cons_zero, List.set_cons_succ]
              refine wpAnyH_ready (rs := [11]) (by kernel_rfl) (by simp) ?_
              refine stepH 11 rfl (by rfl) (fun K hK => ?_) ?_
              · go_simp
                refine hK.out _ _ ?_ (fun hNew => ?_)
                · (try dsimp only); first | exact hS6 | exact hS5 | exact hKS _ _ (by first | exact hHeld | exact hS) (by first | assumption | (go_grown; done) | (refine from_drew ?_; go_grown; done))
                clear hK K hHeld
                have hHeld := hNew
                clear hNew
                try dsimp only at hHeld
                try simp only [Act.put, List.setIfInBounds_toArray, List.set_cons_zero, List.set_cons_succ]
                refine wpAnyH_done (by kernel_rfl) ?_ _
                refine NoPanic.normal ?_
                clear hHeld hS5 hS6 c50 f50
                go_wp2_with fail
                go_roundw
                case rel => exact ⟨k + 1, ks ++ [t'], _, _, rfl, by omega, by go_num, HI6, HR6⟩
                case measure => simp [intOf]; omega
              exact AllReadyH.nil
            exact AllReadyH.nil
          exact AllReadyH.nil
        exact AllReadyH.nil
      exact AllReadyH.nil
    · have hi1 : ¬ (k : Int) < (d.n : Int) := by omega
      have hkn : k = d.n := by omega
      subst hkn
      obtain ⟨p, c, rfl, hfin⟩ := HI.out.done hn
      have k0 := HRz.out.o3.cell (i := 0) rfl
      have k1 := HRz.out.o3.cell (i := 1) rfl
      have k2 := HRz.out.o3.cell (i := 2) rfl
      have k3 := HRz.out.o3.cell (i := 3) rfl
      have k4 := HRz.out.o3.cell (i := 4) rfl
      have k5 := HRz.out.o3.cell (i := 5) rfl
      have x0 := HRz.out.o2.cell (i := 0) rfl
      have x1 := HRz.out.o2.cell (i := 1) rfl
      have x2 := HRz.out.o2.cell (i := 2) rfl
      have x3 := HRz.out.o2.cell (i := 3) rfl
      have x4 := HRz.out.o2.cell (i := 4) rfl
      have x5 := HRz.out.o2.cell (i := 5) rfl
      have hfX := fun i => HRz.out.o2.frozen i
      have HFIN := Lib.hid hfin
      clear hfin
      go_wp2_with fail
      obtain ⟨z, hz, hz1, hz2, hz3⟩ := six_set wz X (.int .i64 d.kind) (.int .i64 d.fn) (.int .i64 d.axis) (.string d.name) (.slice p1 d.nums.length c1) (.slice p d.n c)
      rw [hz]
      have oZ := hz3 _ _ _ _ _ _ _ HRz.out.o2
      have y0 := oZ.cell (i := 0) rfl
      have y1 := oZ.cell (i := 1) rfl
      have y2 := oZ.cell (i := 2) rfl
      have y3 := oZ.cell (i := 3) rfl
      have y4 := oZ.cell (i := 4) rfl
      have y5 := oZ.cell (i := 5) rfl
      have hX := HX.out
      have hBB := HRz.out.hB
      have hzb := hz2 w.heap.size w HI.out.below (by omega)
      have hnums : d.nums = [] ∨ ∃ g, p1 = some ⟨g, 0, none⟩ ∧ w.heap.size ≤ g ∧ Own z g 2 (d.nums.map (.int .i64)) := by
        rcases HRz.out.nums with h' | ⟨g, hp, h1, h2, ho⟩
        · exact .inl h'
        · exact .inr ⟨g, hp, by omega, ho.block (hz1 g (by omega))⟩
      obtain ⟨kids', hk1, hk2⟩ := HFIN.out (fun j => w.heap.size ≤ j) p1 c1 z (fun j hj => by omega) (fun j hj _ => hz1 j (by omega)) hnums ⟨H64.out, HS.out.2.2.1⟩
      refine bodyPost_ret (v := .agg #[.int .i64 d.kind, .int .i64 d.fn, .int .i64 d.axis, .string d.name, .slice p1 d.nums.length c1, .slice p d.n c]) ?_ rfl ⟨_, rfl, hk1, hk2, hzb⟩
      clear hk1 hk2 hzb hnums hz hz1 hz2 hz3 oZ
      simp [results, Try.f23, go_sem, y0, y1, y2, y3, y4, y5]
theorem RCopy_any : ∀ (t : TV) (w : World), sizeT t ≤ 1000000 → numsT t ≤ 1000000 → TreeIn w t → Calls Try.prog 23 #[.agg #[.int .i64 t.d.kind, .int .i64 t.d.fn, .int .i64 t.d.axis, .string t.d.name, .slice t.d.np t.d.nums.length t.d.nc, .slice t.d.kp t.d.n t.d.kc]] w (CopyRet w t)
  | .nil, _, _, _, h => h.no
  | .mk d kids, w, hs, hm, h => RCopy_step d kids (fun i w hs hm h => RCopy_any (kids i) w hs hm h) w hs hm h
end Go.Proofs.Ytjehgcmcphgofaa
