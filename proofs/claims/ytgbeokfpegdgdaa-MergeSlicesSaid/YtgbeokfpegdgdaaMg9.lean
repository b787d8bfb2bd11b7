/- Two pieces as one: merge.Join of two that can be joined. No condition beyond what it says. -/
import Derived.Test.YtgbeokfpegdgdaaMg8
namespace Go.Proofs.Ytgbeokfpegdgdaa
open Go.RowKit Go.Shelf
set_option linter.unusedVariables false
set_option linter.unusedSimpArgs false

set_option maxRecDepth 100000 in
set_option maxHeartbeats 1000000 in
theorem Join_yes (x y : PV) (a : Int) (ha : axR x.lo x.hi y.lo y.hi = a) (h0 : 0 ≤ a) (h : OneAcc x y) (hl1 : x.hi.length = x.lo.length) (hl2 : y.lo.length = x.lo.length) (hl3 : y.hi.length = x.lo.length) (l1 : x.lo.length ≤ 1000000) (l2 : y.hi.length ≤ 1000000) (l3 : x.s.length ≤ 1000000) (w : World) (hx : PVI w x) (hy : PVI w y) :
    Calls Try.prog 10 #[.agg #[.slice x.p x.lo.length x.c, .slice x.q x.hi.length x.f, .int .i64 x.k, .int .i64 x.b, .int .i64 x.e, .slice x.g x.s.length x.d, .int .i64 x.st, .int .i64 x.sp, .int .i64 x.md], .agg #[.slice y.p y.lo.length y.c, .slice y.q y.hi.length y.f, .int .i64 y.k, .int .i64 y.b, .int .i64 y.e, .slice y.g y.s.length y.d, .int .i64 y.st, .int .i64 y.sp, .int .i64 y.md]] w fun e w' => (∃ z : PV, e = .returned (.tuple #[.agg #[.slice z.p z.lo.length z.c, .slice z.q z.hi.length z.f, .int .i64 z.k, .int .i64 z.b, .int .i64 z.e, .slice z.g z.s.length z.d, .int .i64 z.st, .int .i64 z.sp, .int .i64 z.md], .bool true]) ∧ PVN w.heap.size w' z ∧ z.lo = x.lo ∧ z.hi = y.hi ∧ OneAcc x z) ∧ Below w.heap.size w w' := by
  obtain ⟨W, hW, hz, hbW, OA, OB, OR⟩ := three_pieces w x y
  have HW := Lib.hid hW
  have hd : decide (a < 0) = false := by simp; omega
  have L1 := Lib.hid hl1
  have L2 := Lib.hid hl2
  have L3 := Lib.hid hl3
  have HA := Lib.hid ha
  clear hW ha h0 hl1 hl2 hl3
  have a0 := OA.cell (i := 0) rfl
  have a1 := OA.cell (i := 1) rfl
  have a2 := OA.cell (i := 2) rfl
  have a3 := OA.cell (i := 3) rfl
  have a4 := OA.cell (i := 4) rfl
  have a5 := OA.cell (i := 5) rfl
  have a6 := OA.cell (i := 6) rfl
  have a7 := OA.cell (i := 7) rfl
  have a8 := OA.cell (i := 8) rfl
  have b0 := OB.cell (i := 0) rfl
  have b1 := OB.cell (i := 1) rfl
  have b2 := OB.cell (i := 2) rfl
  have b3 := OB.cell (i := 3) rfl
  have b4 := OB.cell (i := 4) rfl
  have b5 := OB.cell (i := 5) rfl
  have b6 := OB.cell (i := 6) rfl
  have b7 := OB.cell (i := 7) rfl
  have b8 := OB.cell (i := 8) rfl
  go_enter Try.func10, Try.ntmps10
  go_wp2_with fail
  rw [HW.out]
  clear HW
  go_wp2_with fail
  refine (Axis_is x y a HA.out h L1.out L2.out L3.out W (hx.keep hbW) (hy.keep hbW)).mono ?_
  rintro e1 W1 ⟨rfl, hb1⟩
  have OA := OA.keep hb1 OA.lt
  have OB := OB.keep hb1 OB.lt
  have OR := OR.keep hb1 OR.lt
  have hbW := below_t hbW hb1
  have hz1 := hb1.size
  clear hb1 a0 b0 a1 b1 a2 b2 a3 b3 a4 b4 a5 b5 a6 b6 a7 b7 a8 b8
  go_upto_region 3 with fail
  have hSz := Nat.le_trans (Nat.le_of_eq hz.symm) hz1
  have SZ := Lib.hid hSz
  have hzA := OA.lt
  have hzB := OB.lt
  have hKS : Keeps (fun w' => (w.heap.size < w'.heap.size ∧ w'.cell? ⟨w.heap.size, 0, none⟩ = some (.slice x.p x.lo.length x.c)) ∧ (w.heap.size < w'.heap.size ∧ w'.cell? ⟨w.heap.size, 2, none⟩ = some (.int .i64 x.k)) ∧ (w.heap.size < w'.heap.size ∧ w'.cell? ⟨w.heap.size, 3, none⟩ = some (.int .i64 x.b)) ∧ (w.heap.size < w'.heap.size ∧ w'.cell? ⟨w.heap.size, 4, none⟩ = some (.int .i64 x.e)) ∧ (w.heap.size < w'.heap.size ∧ w'.cell? ⟨w.heap.size, 5, none⟩ = some (.slice x.g x.s.length x.d)) ∧ (w.heap.size < w'.heap.size ∧ w'.cell? ⟨w.heap.size, 6, none⟩ = some (.int .i64 x.st)) ∧ (w.heap.size < w'.heap.size ∧ w'.cell? ⟨w.heap.size, 7, none⟩ = some (.int .i64 x.sp)) ∧ (w.heap.size < w'.heap.size ∧ w'.cell? ⟨w.heap.size, 8, none⟩ = some (.int .i64 x.md)) ∧ (w.heap.size + 1 < w'.heap.size ∧ w'.cell? ⟨w.heap.size + 1, 1, none⟩ = some (.slice y.q y.hi.length y.f)) ∧ Below w.heap.size w w') := (keeps_cell _ _ _).and ((keeps_cell _ _ _).and ((keeps_cell _ _ _).and ((keeps_cell _ _ _).and ((keeps_cell _ _ _).and ((keeps_cell _ _ _).and ((keeps_cell _ _ _).and ((keeps_cell _ _ _).and ((keeps_cell _ _ _).and (keeps_below w)))))))))
  have hKT : KeepsS (w.heap.size + 3) (fun w' => (w.heap.size < w'.heap.size ∧ w'.cell? ⟨w.heap.size, 0, none⟩ = some (.slice x.p x.lo.length x.c)) ∧ (w.heap.size < w'.heap.size ∧ w'.cell? ⟨w.heap.size, 2, none⟩ = some (.int .i64 x.k)) ∧ (w.heap.size < w'.heap.size ∧ w'.cell? ⟨w.heap.size, 3, none⟩ = some (.int .i64 x.b)) ∧ (w.heap.size < w'.heap.size ∧ w'.cell? ⟨w.heap.size, 4, none⟩ = some (.int .i64 x.e)) ∧ (w.heap.size < w'.heap.size ∧ w'.cell? ⟨w.heap.size, 5, none⟩ = some (.slice x.g x.s.length x.d)) ∧ (w.heap.size < w'.heap.size ∧ w'.cell? ⟨w.heap.size, 6, none⟩ = some (.int .i64 x.st)) ∧ (w.heap.size < w'.heap.size ∧ w'.cell? ⟨w.heap.size, 7, none⟩ = some (.int .i64 x.sp)) ∧ (w.heap.size < w'.heap.size ∧ w'.cell? ⟨w.heap.size, 8, none⟩ = some (.int .i64 x.md)) ∧ (w.heap.size + 1 < w'.heap.size ∧ w'.cell? ⟨w.heap.size + 1, 1, none⟩ = some (.slice y.q y.hi.length y.f)) ∧ Below w.heap.size w w') := (keepsS_cell _ _ (by omega)).and ((keepsS_cell _ _ (by omega)).and ((keepsS_cell _ _ (by omega)).and ((keepsS_cell _ _ (by omega)).and ((keepsS_cell _ _ (by omega)).and ((keepsS_cell _ _ (by omega)).and ((keepsS_cell _ _ (by omega)).and ((keepsS_cell _ _ (by omega)).and ((keepsS_cell _ _ (by omega)).and (keepsS_below (by omega))))))))))
  have hKA : KeepsA (w.heap.size + 3) (fun w' => (w.heap.size < w'.heap.size ∧ w'.cell? ⟨w.heap.size, 0, none⟩ = some (.slice x.p x.lo.length x.c)) ∧ (w.heap.size < w'.heap.size ∧ w'.cell? ⟨w.heap.size, 2, none⟩ = some (.int .i64 x.k)) ∧ (w.heap.size < w'.heap.size ∧ w'.cell? ⟨w.heap.size, 3, none⟩ = some (.int .i64 x.b)) ∧ (w.heap.size < w'.heap.size ∧ w'.cell? ⟨w.heap.size, 4, none⟩ = some (.int .i64 x.e)) ∧ (w.heap.size < w'.heap.size ∧ w'.cell? ⟨w.heap.size, 5, none⟩ = some (.slice x.g x.s.length x.d)) ∧ (w.heap.size < w'.heap.size ∧ w'.cell? ⟨w.heap.size, 6, none⟩ = some (.int .i64 x.st)) ∧ (w.heap.size < w'.heap.size ∧ w'.cell? ⟨w.heap.size, 7, none⟩ = some (.int .i64 x.sp)) ∧ (w.heap.size < w'.heap.size ∧ w'.cell? ⟨w.heap.size, 8, none⟩ = some (.int .i64 x.md)) ∧ (w.heap.size + 1 < w'.heap.size ∧ w'.cell? ⟨w.heap.size + 1, 1, none⟩ = some (.slice y.q y.hi.length y.f)) ∧ Below w.heap.size w w') := (keepsA_cell _ _ (by omega)).and ((keepsA_cell _ _ (by omega)).and ((keepsA_cell _ _ (by omega)).and ((keepsA_cell _ _ (by omega)).and ((keepsA_cell _ _ (by omega)).and ((keepsA_cell _ _ (by omega)).and ((keepsA_cell _ _ (by omega)).and ((keepsA_cell _ _ (by omega)).and ((keepsA_cell _ _ (by omega)).and (keepsA_below (by omega))))))))))
  have hS : (fun w' => (w.heap.size < w'.heap.size ∧ w'.cell? ⟨w.heap.size, 0, none⟩ = some (.slice x.p x.lo.length x.c)) ∧ (w.heap.size < w'.heap.size ∧ w'.cell? ⟨w.heap.size, 2, none⟩ = some (.int .i64 x.k)) ∧ (w.heap.size < w'.heap.size ∧ w'.cell? ⟨w.heap.size, 3, none⟩ = some (.int .i64 x.b)) ∧ (w.heap.size < w'.heap.size ∧ w'.cell? ⟨w.heap.size, 4, none⟩ = some (.int .i64 x.e)) ∧ (w.heap.size < w'.heap.size ∧ w'.cell? ⟨w.heap.size, 5, none⟩ = some (.slice x.g x.s.length x.d)) ∧ (w.heap.size < w'.heap.size ∧ w'.cell? ⟨w.heap.size, 6, none⟩ = some (.int .i64 x.st)) ∧ (w.heap.size < w'.heap.size ∧ w'.cell? ⟨w.heap.size, 7, none⟩ = some (.int .i64 x.sp)) ∧ (w.heap.size < w'.heap.size ∧ w'.cell? ⟨w.heap.size, 8, none⟩ = some (.int .i64 x.md)) ∧ (w.heap.size + 1 < w'.heap.size ∧ w'.cell? ⟨w.heap.size + 1, 1, none⟩ = some (.slice y.q y.hi.length y.f)) ∧ Below w.heap.size w w') W1 := ⟨⟨hzA, OA.cell (i := 0) rfl⟩, ⟨hzA, OA.cell (i := 2) rfl⟩, ⟨hzA, OA.cell (i := 3) rfl⟩, ⟨hzA, OA.cell (i := 4) rfl⟩, ⟨hzA, OA.cell (i := 5) rfl⟩, ⟨hzA, OA.cell (i := 6) rfl⟩, ⟨hzA, OA.cell (i := 7) rfl⟩, ⟨hzA, OA.cell (i := 8) rfl⟩, ⟨hzB, OB.cell (i := 1) rfl⟩, hbW⟩
  have hbW' := Lib.hid hbW
  have hOA := Lib.hid OA
  have hOR := Lib.hid OR
  clear hbW OA OB OR hz1 hz hSz hzA hzB
  go_cut [6] (fun t wx => ∃ g wz p c q f, t = .pointer (some ⟨g, 0, none⟩) ∧ wz = wx ∧ Hid (JoinSt w x y p c q f g wz))
  case first =>
    refine wp_region_noPanic ?_
    refine wp_region_held_drew (S := (fun w' => (w.heap.size < w'.heap.size ∧ w'.cell? ⟨w.heap.size, 0, none⟩ = some (.slice x.p x.lo.length x.c)) ∧ (w.heap.size < w'.heap.size ∧ w'.cell? ⟨w.heap.size, 2, none⟩ = some (.int .i64 x.k)) ∧ (w.heap.size < w'.heap.size ∧ w'.cell? ⟨w.heap.size, 3, none⟩ = some (.int .i64 x.b)) ∧ (w.heap.size < w'.heap.size ∧ w'.cell? ⟨w.heap.size, 4, none⟩ = some (.int .i64 x.e)) ∧ (w.heap.size < w'.heap.size ∧ w'.cell? ⟨w.heap.size, 5, none⟩ = some (.slice x.g x.s.length x.d)) ∧ (w.heap.size < w'.heap.size ∧ w'.cell? ⟨w.heap.size, 6, none⟩ = some (.int .i64 x.st)) ∧ (w.heap.size < w'.heap.size ∧ w'.cell? ⟨w.heap.size, 7, none⟩ = some (.int .i64 x.sp)) ∧ (w.heap.size < w'.heap.size ∧ w'.cell? ⟨w.heap.size, 8, none⟩ = some (.int .i64 x.md)) ∧ (w.heap.size + 1 < w'.heap.size ∧ w'.cell? ⟨w.heap.size + 1, 1, none⟩ = some (.slice y.q y.hi.length y.f)) ∧ Below w.heap.size w w')) (by kernel_rfl) ?_ (fun hHeld => ?_)
    · (try dsimp only); first | exact hS13 | exact hKS _ _ (by first | exact hHeld | exact hS) (by first | assumption | (go_grown; done) | (refine from_drew ?_; go_grown; done))
    refine takeH 0 (some 12) (v := ?_) rfl rfl (by kernel_rfl) (by kernel_rfl) (by kernel_rfl) (by rfl) ?_ (by exact hHeld) ?_
    rotate_left
    · intro w hSw; (try dsimp only at hSw); go_simp; try (with_reducible rfl)
    try simp only [Act.put, List.setIfInBounds_toArray, List.set_cons_zero, List.set_cons_succ]
    refine takeH 1 (some 13) (v := ?_) rfl rfl (by kernel_rfl) (by kernel_rfl) (by kernel_rfl) (by rfl) ?_ (by exact hHeld) ?_
    rotate_left
    · intro w hSw; (try dsimp only at hSw); go_simp; try (with_reducible rfl)
    try simp only [Act.put, List.setIfInBounds_toArray, List.set_cons_zero, List.set_cons_succ]
    refine takeH 2 (some 14) (v := ?_) rfl rfl (by kernel_rfl) (by kernel_rfl) (by kernel_rfl) (by rfl) ?_ (by exact hHeld) ?_
    rotate_left
    · intro w hSw; (try dsimp only at hSw); go_simp; try (with_reducible rfl)
    try simp only [Act.put, List.setIfInBounds_toArray, List.set_cons_zero, List.set_cons_succ]
    refine takeH 4 (some 16) (v := ?_) rfl rfl (by kernel_rfl) (by kernel_rfl) (by kernel_rfl) (by rfl) ?_ (by exact hHeld) ?_
    rotate_left
    · intro w hSw; (try dsimp only at hSw); go_simp; try (with_reducible rfl)
    try simp only [Act.put, List.setIfInBounds_toArray, List.set_cons_zero, List.set_cons_succ]
    refine takeH 5 (some 17) (v := ?_) rfl rfl (by kernel_rfl) (by kernel_rfl) (by kernel_rfl) (by rfl) ?_ (by exact hHeld) ?_
    rotate_left
    · intro w hSw; (try dsimp only at hSw); go_simp; try (with_reducible rfl)
    try simp only [Act.put, List.setIfInBounds_toArray, List.set_cons_zero, List.set_cons_succ]
    refine takeH 6 (some 18) (v := ?_) rfl rfl (by kernel_rfl) (by kernel_rfl) (by kernel_rfl) (by rfl) ?_ (by exact hHeld) ?_
    rotate_left
    · intro w hSw; (try dsimp only at hSw); go_simp; try (with_reducible rfl)
    try simp only [Act.put, List.setIfInBounds_toArray, List.set_cons_zero, List.set_cons_succ]
    refine takeH 9 (some 21) (v := ?_) rfl rfl (by kernel_rfl) (by kernel_rfl) (by kernel_rfl) (by rfl) ?_ (by exact hHeld) ?_
    rotate_left
    · intro w hSw; (try dsimp only at hSw); go_simp; try (with_reducible rfl)
    try simp only [Act.put, List.setIfInBounds_toArray, List.set_cons_zero, List.set_cons_succ]
    refine takeH 10 (some 22) (v := ?_) rfl rfl (by kernel_rfl) (by kernel_rfl) (by kernel_rfl) (by rfl) ?_ (by exact hHeld) ?_
    rotate_left
    · intro w hSw; (try dsimp only at hSw); go_simp; try (with_reducible rfl)
    try simp only [Act.put, List.setIfInBounds_toArray, List.set_cons_zero, List.set_cons_succ]
    refine wpAnyH_ready (rs := [3, 12]) (by kernel_rfl) (by simp) ?_
    refine stepH 3 rfl (by rfl) (fun K hK => ?_) ?_
    · go_simp
      ((with_reducible refine (Clone_is x.p x.c x.lo _ _ rfl ?_ l1).mono ?_); (exact hx.lo.keep hHeld.2.2.2.2.2.2.2.2.2); rintro e1 w1 ⟨⟨p1, c1, rfl, hn1⟩, hb1⟩)
      refine hK.out _ _ ?_ (fun hNew => ?_)
      · (try dsimp only); first | exact hS13 | exact hKS _ _ (by first | exact hHeld | exact hS) (by first | assumption | (go_grown; done) | (refine from_drew ?_; go_grown; done))
      clear hK K hHeld
      have hHeld := hNew
      clear hNew
      try dsimp only at hHeld
      try simp only [Act.put, List.setIfInBounds_toArray, List.set_cons_zero, List.set_cons_succ]
      refine wpAnyH_ready (rs := [7, 12]) (by kernel_rfl) (by simp) ?_
      refine stepH 7 rfl (by rfl) (fun K hK => ?_) ?_
      · go_simp
        ((with_reducible refine (Clone_is y.q y.f y.hi _ _ rfl ?_ l2).mono ?_); (exact hy.hi.keep hHeld.2.2.2.2.2.2.2.2.2); rintro e2 w2 ⟨⟨p2, c2, rfl, hn2⟩, hb2⟩)
        refine hK.out _ _ ?_ (fun hNew => ?_)
        · (try dsimp only); first | exact hS13 | exact hKS _ _ (by first | exact hHeld | exact hS) (by first | assumption | (go_grown; done) | (refine from_drew ?_; go_grown; done))
        clear hK K hHeld
        have hHeld := hNew
        clear hNew
        try dsimp only at hHeld
        try simp only [Act.put, List.setIfInBounds_toArray, List.set_cons_zero, List.set_cons_succ]
        refine takeH 8 (some 20) (v := ?_) rfl rfl (by kernel_rfl) (by kernel_rfl) (by kernel_rfl) (by rfl) ?_ (by exact hHeld) ?_
        rotate_left
        · intro w hSw; (try dsimp only at hSw); go_simp; try (with_reducible rfl)
        try simp only [Act.put, List.setIfInBounds_toArray, List.set_cons_zero, List.set_cons_succ]
        refine takeH 11 (some 23) (v := ?_) rfl rfl (by kernel_rfl) (by kernel_rfl) (by kernel_rfl) (by rfl) ?_ (by exact hHeld) ?_
        rotate_left
        · intro w hSw; (try dsimp only at hSw); go_simp; try (with_reducible rfl)
        try simp only [Act.put, List.setIfInBounds_toArray, List.set_cons_zero, List.set_cons_succ]
        refine wpAnyH_ready (rs := [12]) (by kernel_rfl) (by simp) ?_
        refine stepH 12 rfl (by rfl) (fun K hK => ?_) ?_
        · go_simp
          refine hK.out _ _ ?_ (fun hNew => ?_)
          · (try dsimp only); first | exact hS13 | exact hKS _ _ (by first | exact hHeld | exact hS) (by first | assumption | (go_grown; done) | (refine from_drew ?_; go_grown; done))
          clear hK K hHeld
          have hHeld := hNew
          clear hNew
          try dsimp only at hHeld
          try simp only [Act.put, List.setIfInBounds_toArray, List.set_cons_zero, List.set_cons_succ]
          refine wpAnyH_ready (rs := [13]) (by kernel_rfl) (by simp) ?_
          refine stepH 13 rfl (by rfl) (fun K hK => ?_) ?_
          · (first | (have hL9 := join_L1 hb1 hb2; obtain ⟨hO9, hx9⟩ := hL9; have hg9 : w.heap.size + 3 ≤ W1.heap.size := SZ.out; have hS13 := hKT.nine _ _ (mid x y p1 c1 p2 c2) hg9 hHeld; have hJ9 := Lib.hid (join_set (y := y) (c := c1) (f := c2) SZ.out hbW'.out hOR.out hOA.out hx9 (Nat.le_refl _) hO9 rfl ((hn1.keep' hb2).mono (by simp)) (hn2.mono (by have := hb1.size; simp at this; omega)))) | (have hL9 := join_L2 hb1 hb2; obtain ⟨hO9, hx9, hy9⟩ := hL9; have hg9 : w.heap.size + 3 ≤ w1.heap.size := (by have := SZ.out; omega); have hS13 := hKT.nine _ _ (mid x y p1 c1 p2 c2) hg9 hHeld; have hJ9 := Lib.hid (join_set (y := y) (c := c1) (f := c2) SZ.out hbW'.out hOR.out hOA.out hx9 hy9 hO9 rfl ((hn1.keep' (below_t (below_alloc _ _) hb2)).mono (by simp)) (hn2.mono (by simp; omega)))) | (have hx9 := join_L3 hb1 hb2; have hS13 := hKA w2 _ (.cells #[.slice p1 x.lo.length c1, .slice p2 y.hi.length c2, .int .i64 x.k, .int .i64 x.b, .int .i64 x.e, .slice x.g x.s.length x.d, .int .i64 x.st, .int .i64 x.sp, .int .i64 x.md] 36) (by have := SZ.out; have := hx9.size; omega) hHeld; have hJ9 := Lib.hid (join_lit (y := y) (c := c1) (f := c2) SZ.out hbW'.out hOR.out hOA.out hx9 ((hn1.keep' hb2).mono (by simp)) (hn2.mono (by have := hb1.size; simp at this; omega))))); (try have t0 := hO9.cell (i := 0) rfl); (try have f0 := hO9.frozen 0); (try have t1 := hO9.cell (i := 1) rfl); (try have f1 := hO9.frozen 1); (try have t2 := hO9.cell (i := 2) rfl); (try have f2 := hO9.frozen 2); (try have t3 := hO9.cell (i := 3) rfl); (try have f3 := hO9.frozen 3); (try have t4 := hO9.cell (i := 4) rfl); (try have f4 := hO9.frozen 4); (try have t5 := hO9.cell (i := 5) rfl); (try have f5 := hO9.frozen 5); (try have t6 := hO9.cell (i := 6) rfl); (try have f6 := hO9.frozen 6); (try have t7 := hO9.cell (i := 7) rfl); (try have f7 := hO9.frozen 7); (try have t8 := hO9.cell (i := 8) rfl); (try have f8 := hO9.frozen 8); go_simp
            refine hK.out _ _ ?_ (fun hNew => ?_)
            · (try dsimp only); first | exact hS13 | exact hKS _ _ (by first | exact hHeld | exact hS) (by first | assumption | (go_grown; done) | (refine from_drew ?_; go_grown; done))
            clear hK K hHeld
            have hHeld := hNew
            clear hNew
            try dsimp only at hHeld
            try simp only [Act.put, List.setIfInBounds_toArray, List.set_cons_zero, List.set_cons_succ]
            refine wpAnyH_done (by kernel_rfl) ?_ _
            refine NoPanic.normal ?_
            go_wp2_with fail
            all_goals go_meet
            exact ⟨_, _, p1, c1, p2, c2, rfl, rfl, hJ9⟩
          exact AllReadyH.nil
        exact AllReadyH.nil
      refine stepH 12 rfl (by rfl) (fun K hK => ?_) ?_
      · go_simp
        refine hK.out _ _ ?_ (fun hNew => ?_)
        · (try dsimp only); first | exact hS13 | exact hKS _ _ (by first | exact hHeld | exact hS) (by first | assumption | (go_grown; done) | (refine from_drew ?_; go_grown; done))
        clear hK K hHeld
        have hHeld := hNew
        clear hNew
        try dsimp only at hHeld
        try simp only [Act.put, List.setIfInBounds_toArray, List.set_cons_zero, List.set_cons_succ]
        refine wpAnyH_ready (rs := [7]) (by kernel_rfl) (by simp) ?_
        refine stepH 7 rfl (by rfl) (fun K hK => ?_) ?_
        · go_simp
          ((with_reducible refine (Clone_is y.q y.f y.hi _ _ rfl ?_ l2).mono ?_); (exact hy.hi.keep hHeld.2.2.2.2.2.2.2.2.2); rintro e2 w2 ⟨⟨p2, c2, rfl, hn2⟩, hb2⟩)
          refine hK.out _ _ ?_ (fun hNew => ?_)
          · (try dsimp only); first | exact hS13 | exact hKS _ _ (by first | exact hHeld | exact hS) (by first | assumption | (go_grown; done) | (refine from_drew ?_; go_grown; done))
          clear hK K hHeld
          have hHeld := hNew
          clear hNew
          try dsimp only at hHeld
          try simp only [Act.put, List.setIfInBounds_toArray, List.set_cons_zero, List.set_cons_succ]
          refine takeH 8 (some 20) (v := ?_) rfl rfl (by kernel_rfl) (by kernel_rfl) (by kernel_rfl) (by rfl) ?_ (by exact hHeld) ?_
          rotate_left
          · intro w hSw; (try dsimp only at hSw); go_simp; try (with_reducible rfl)
          try simp only [Act.put, List.setIfInBounds_toArray, List.set_cons_zero, List.set_cons_succ]
          refine takeH 11 (some 23) (v := ?_) rfl rfl (by kernel_rfl) (by kernel_rfl) (by kernel_rfl) (by rfl) ?_ (by exact hHeld) ?_
          rotate_left
          · intro w hSw; (try dsimp only at hSw); go_simp; try (with_reducible rfl)
          try simp only [Act.put, List.setIfInBounds_toArray, List.set_cons_zero, List.set_cons_succ]
          refine wpAnyH_ready (rs := [13]) (by kernel_rfl) (by simp) ?_
          refine stepH 13 rfl (by rfl) (fun K hK => ?_) ?_
          · (first | (have hL9 := join_L1 hb1 hb2; obtain ⟨hO9, hx9⟩ := hL9; have hg9 : w.heap.size + 3 ≤ W1.heap.size := SZ.out; have hS13 := hKT.nine _ _ (mid x y p1 c1 p2 c2) hg9 hHeld; have hJ9 := Lib.hid (join_set (y := y) (c := c1) (f := c2) SZ.out hbW'.out hOR.out hOA.out hx9 (Nat.le_refl _) hO9 rfl ((hn1.keep' hb2).mono (by simp)) (hn2.mono (by have := hb1.size; simp at this; omega)))) | (have hL9 := join_L2 hb1 hb2; obtain ⟨hO9, hx9, hy9⟩ := hL9; have hg9 : w.heap.size + 3 ≤ w1.heap.size := (by have := SZ.out; omega); have hS13 := hKT.nine _ _ (mid x y p1 c1 p2 c2) hg9 hHeld; have hJ9 := Lib.hid (join_set (y := y) (c := c1) (f := c2) SZ.out hbW'.out hOR.out hOA.out hx9 hy9 hO9 rfl ((hn1.keep' (below_t (below_alloc _ _) hb2)).mono (by simp)) (hn2.mono (by simp; omega)))) | (have hx9 := join_L3 hb1 hb2; have hS13 := hKA w2 _ (.cells #[.slice p1 x.lo.length c1, .slice p2 y.hi.length c2, .int .i64 x.k, .int .i64 x.b, .int .i64 x.e, .slice x.g x.s.length x.d, .int .i64 x.st, .int .i64 x.sp, .int .i64 x.md] 36) (by have := SZ.out; have := hx9.size; omega) hHeld; have hJ9 := Lib.hid (join_lit (y := y) (c := c1) (f := c2) SZ.out hbW'.out hOR.out hOA.out hx9 ((hn1.keep' hb2).mono (by simp)) (hn2.mono (by have := hb1.size; simp at this; omega))))); (try have t0 := hO9.cell (i := 0) rfl); (try have f0 := hO9.frozen 0); (try have t1 := hO9.cell (i := 1) rfl); (try have f1 := hO9.frozen 1); (try have t2 := hO9.cell (i := 2) rfl); (try have f2 := hO9.frozen 2); (try have t3 := hO9.cell (i := 3) rfl); (try have f3 := hO9.frozen 3); (try have t4 := hO9.cell (i := 4) rfl); (try have f4 := hO9.frozen 4); (try have t5 := hO9.cell (i := 5) rfl); (try have f5 := hO9.frozen 5); (try have t6 := hO9.cell (i := 6) rfl); (try have f6 := hO9.frozen 6); (try have t7 := hO9.cell (i := 7) rfl); (try have f7 := hO9.frozen 7); (try have t8 := hO9.cell (i := 8) rfl); (try have f8 := hO9.frozen 8); go_simp
            refine hK.out _ _ ?_ (fun hNew => ?_)
            · (try dsimp only); first | exact hS13 | exact hKS _ _ (by first | exact hHeld | exact hS) (by first | assumption | (go_grown; done) | (refine from_drew ?_; go_grown; done))
            clear hK K hHeld
            have hHeld := hNew
            clear hNew
            try dsimp only at hHeld
            try simp only [Act.put, List.setIfInBounds_toArray, List.set_cons_zero, List.set_cons_succ]
            refine wpAnyH_done (by kernel_rfl) ?_ _
            refine NoPanic.normal ?_
            go_wp2_with fail
            all_goals go_meet
            exact ⟨_, _, p1, c1, p2, c2, rfl, rfl, hJ9⟩
          exact AllReadyH.nil
        exact AllReadyH.nil
      exact AllReadyH.nil
    refine stepH 12 rfl (by rfl) (fun K hK => ?_) ?_
    · go_simp
      refine hK.out _ _ ?_ (fun hNew => ?_)
      · (try dsimp only); first | exact hS13 | exact hKS _ _ (by first | exact hHeld | exact hS) (by first | assumption | (go_grown; done) | (refine from_drew ?_; go_grown; done))
      clear hK K hHeld
      have hHeld := hNew
      clear hNew
      try dsimp only at hHeld
      try simp only [Act.put, List.setIfInBounds_toArray, List.set_cons_zero, List.set_cons_succ]
      refine wpAnyH_ready (rs := [3]) (by kernel_rfl) (by simp) ?_
      refine stepH 3 rfl (by rfl) (fun K hK => ?_) ?_
      · go_simp
        ((with_reducible refine (Clone_is x.p x.c x.lo _ _ rfl ?_ l1).mono ?_); (exact hx.lo.keep hHeld.2.2.2.2.2.2.2.2.2); rintro e1 w1 ⟨⟨p1, c1, rfl, hn1⟩, hb1⟩)
        refine hK.out _ _ ?_ (fun hNew => ?_)
        · (try dsimp only); first | exact hS13 | exact hKS _ _ (by first | exact hHeld | exact hS) (by first | assumption | (go_grown; done) | (refine from_drew ?_; go_grown; done))
        clear hK K hHeld
        have hHeld := hNew
        clear hNew
        try dsimp only at hHeld
        try simp only [Act.put, List.setIfInBounds_toArray, List.set_cons_zero, List.set_cons_succ]
        refine wpAnyH_ready (rs := [7]) (by kernel_rfl) (by simp) ?_
        refine stepH 7 rfl (by rfl) (fun K hK => ?_) ?_
        · go_simp
          ((with_reducible refine (Clone_is y.q y.f y.hi _ _ rfl ?_ l2).mono ?_); (exact hy.hi.keep hHeld.2.2.2.2.2.2.2.2.2); rintro e2 w2 ⟨⟨p2, c2, rfl, hn2⟩, hb2⟩)
          refine hK.out _ _ ?_ (fun hNew => ?_)
          · (try dsimp only); first | exact hS13 | exact hKS _ _ (by first | exact hHeld | exact hS) (by first | assumption | (go_grown; done) | (refine from_drew ?_; go_grown; done))
          clear hK K hHeld
          have hHeld := hNew
          clear hNew
          try dsimp only at hHeld
          try simp only [Act.put, List.setIfInBounds_toArray, List.set_cons_zero, List.set_cons_succ]
          refine takeH 8 (some 20) (v := ?_) rfl rfl (by kernel_rfl) (by kernel_rfl) (by kernel_rfl) (by rfl) ?_ (by exact hHeld) ?_
          rotate_left
          · intro w hSw; (try dsimp only at hSw); go_simp; try (with_reducible rfl)
          try simp only [Act.put, List.setIfInBounds_toArray, List.set_cons_zero, List.set_cons_succ]
          refine takeH 11 (some 23) (v := ?_) rfl rfl (by kernel_rfl) (by kernel_rfl) (by kernel_rfl) (by rfl) ?_ (by exact hHeld) ?_
          rotate_left
          · intro w hSw; (try dsimp only at hSw); go_simp; try (with_reducible rfl)
          try simp only [Act.put, List.setIfInBounds_toArray, List.set_cons_zero, List.set_cons_succ]
          refine wpAnyH_ready (rs := [13]) (by kernel_rfl) (by simp) ?_
          refine stepH 13 rfl (by rfl) (fun K hK => ?_) ?_
          · (first | (have hL9 := join_L1 hb1 hb2; obtain ⟨hO9, hx9⟩ := hL9; have hg9 : w.heap.size + 3 ≤ W1.heap.size := SZ.out; have hS13 := hKT.nine _ _ (mid x y p1 c1 p2 c2) hg9 hHeld; have hJ9 := Lib.hid (join_set (y := y) (c := c1) (f := c2) SZ.out hbW'.out hOR.out hOA.out hx9 (Nat.le_refl _) hO9 rfl ((hn1.keep' hb2).mono (by simp)) (hn2.mono (by have := hb1.size; simp at this; omega)))) | (have hL9 := join_L2 hb1 hb2; obtain ⟨hO9, hx9, hy9⟩ := hL9; have hg9 : w.heap.size + 3 ≤ w1.heap.size := (by have := SZ.out; omega); have hS13 := hKT.nine _ _ (mid x y p1 c1 p2 c2) hg9 hHeld; have hJ9 := Lib.hid (join_set (y := y) (c := c1) (f := c2) SZ.out hbW'.out hOR.out hOA.out hx9 hy9 hO9 rfl ((hn1.keep' (below_t (below_alloc _ _) hb2)).mono (by simp)) (hn2.mono (by simp; omega)))) | (have hx9 := join_L3 hb1 hb2; have hS13 := hKA w2 _ (.cells #[.slice p1 x.lo.length c1, .slice p2 y.hi.length c2, .int .i64 x.k, .int .i64 x.b, .int .i64 x.e, .slice x.g x.s.length x.d, .int .i64 x.st, .int .i64 x.sp, .int .i64 x.md] 36) (by have := SZ.out; have := hx9.size; omega) hHeld; have hJ9 := Lib.hid (join_lit (y := y) (c := c1) (f := c2) SZ.out hbW'.out hOR.out hOA.out hx9 ((hn1.keep' hb2).mono (by simp)) (hn2.mono (by have := hb1.size; simp at this; omega))))); (try have t0 := hO9.cell (i := 0) rfl); (try have f0 := hO9.frozen 0); (try have t1 := hO9.cell (i := 1) rfl); (try have f1 := hO9.frozen 1); (try have t2 := hO9.cell (i := 2) rfl); (try have f2 := hO9.frozen 2); (try have t3 := hO9.cell (i := 3) rfl); (try have f3 := hO9.frozen 3); (try have t4 := hO9.cell (i := 4) rfl); (try have f4 := hO9.frozen 4); (try have t5 := hO9.cell (i := 5) rfl); (try have f5 := hO9.frozen 5); (try have t6 := hO9.cell (i := 6) rfl); (try have f6 := hO9.frozen 6); (try have t7 := hO9.cell (i := 7) rfl); (try have f7 := hO9.frozen 7); (try have t8 := hO9.cell (i := 8) rfl); (try have f8 := hO9.frozen 8); go_simp
            refine hK.out _ _ ?_ (fun hNew => ?_)
            · (try dsimp only); first | exact hS13 | exact hKS _ _ (by first | exact hHeld | exact hS) (by first | assumption | (go_grown; done) | (refine from_drew ?_; go_grown; done))
            clear hK K hHeld
            have hHeld := hNew
            clear hNew
            try dsimp only at hHeld
            try simp only [Act.put, List.setIfInBounds_toArray, List.set_cons_zero, List.set_cons_succ]
            refine wpAnyH_done (by kernel_rfl) ?_ _
            refine NoPanic.normal ?_
            go_wp2_with fail
            all_goals go_meet
            exact ⟨_, _, p1, c1, p2, c2, rfl, rfl, hJ9⟩
          exact AllReadyH.nil
        exact AllReadyH.nil
      exact AllReadyH.nil
    exact AllReadyH.nil
  case rest =>
    obtain ⟨g, wz, p, c, q, f, rfl, rfl, HT⟩ := hcut
    clear hS hKS hKT hKA
    have a5 := HT.out.a.cell (i := 5) rfl
    have f5 := HT.out.own.frozen 5
    have c5 := HT.out.own.cell (i := 5) rfl
    go_wp2_with fail
    refine (Clone_is x.g x.d x.s _ _ rfl (hx.s.keep HT.out.below) l3).mono ?_
    rintro e3 w3 ⟨⟨p3, d3, rfl, hn3⟩, hb3⟩
    have og := HT.out.own.keep hb3 HT.out.own.lt
    have or := HT.out.res.keep hb3 HT.out.res.lt
    have n1 := Lib.hid (HT.out.lo.keep' hb3)
    have n2 := Lib.hid (HT.out.hi.keep' hb3)
    have hb := Lib.hid (below_t HT.out.below hb3)
    have hzz := HT.out.below.size
    have n3 := Lib.hid (hn3.mono hzz)
    have hgl := HT.out.lt
    clear hb3 hn3 c5 f5 a5 HT hzz
    have c0 := og.cell (i := 0) rfl
    have c1 := og.cell (i := 1) rfl
    have c2 := og.cell (i := 2) rfl
    have c3 := og.cell (i := 3) rfl
    have c4 := og.cell (i := 4) rfl
    have c5 := og.cell (i := 5) rfl
    have c6 := og.cell (i := 6) rfl
    have c7 := og.cell (i := 7) rfl
    have c8 := og.cell (i := 8) rfl
    have r0 := or.cell (i := 0) rfl
    have g0 := or.frozen 0
    have r1 := or.cell (i := 1) rfl
    have g1 := or.frozen 1
    have r2 := or.cell (i := 2) rfl
    have g2 := or.frozen 2
    have r3 := or.cell (i := 3) rfl
    have g3 := or.frozen 3
    have r4 := or.cell (i := 4) rfl
    have g4 := or.frozen 4
    have r5 := or.cell (i := 5) rfl
    have g5 := or.frozen 5
    have r6 := or.cell (i := 6) rfl
    have g6 := or.frozen 6
    have r7 := or.cell (i := 7) rfl
    have g7 := or.frozen 7
    have r8 := or.cell (i := 8) rfl
    have g8 := or.frozen 8
    have f5 := og.frozen 5
    have hne : g ≠ w.heap.size + 2 := by omega
    have hne' : w.heap.size + 2 ≠ g := by omega
    go_wp2_with fail
    have or1 := or.other (a := ⟨g, 5, none⟩) (by show g ≠ _; omega) (.slice p3 x.s.length d3)
    refine bodyPost_ret (v := .tuple #[.agg #[.slice p x.lo.length c, .slice q y.hi.length f, .int .i64 x.k, .int .i64 x.b, .int .i64 x.e, .slice p3 x.s.length d3, .int .i64 x.st, .int .i64 x.sp, .int .i64 x.md], .bool true]) (by simp [results, Try.results10, go_sem, r0, g0, r1, g1, r2, g2, r3, g3, r4, g4, r5, g5, r6, g6, r7, g7, r8, g8, hne, hne']) rfl ?_
    exact ⟨⟨⟨p, c, x.lo, q, f, y.hi, x.k, x.b, x.e, p3, d3, x.s, x.st, x.sp, x.md⟩, rfl, set9_pvn (x := ⟨p, c, x.lo, q, f, y.hi, x.k, x.b, x.e, p3, d3, x.s, x.st, x.sp, x.md⟩) ⟨n1.out.otherT og (by decide) _, n2.out.otherT og (by decide) _, n3.out.otherT og (by decide) _⟩ or1 (by decide), .refl _, .refl _, ⟨.refl _, .refl _, .refl _, .refl _, .refl _, .refl _, .refl _⟩⟩, set9_below (x := ⟨p, c, x.lo, q, f, y.hi, x.k, x.b, x.e, p3, d3, x.s, x.st, x.sp, x.md⟩) (below_set hb.out (by omega) 5 _) (by omega)⟩
end Go.Proofs.Ytgbeokfpegdgdaa
