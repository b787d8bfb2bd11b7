/- The stack of merge: a push of a piece that is joined with the one that lies there. No condition beyond what each says. -/
import Derived.Test.YtgbeokfpegdgdaaMg10
namespace Go.Proofs.Ytgbeokfpegdgdaa
open Go.RowKit Go.Shelf
set_option linter.unusedVariables false
set_option linter.unusedSimpArgs false

/-- two pieces can be joined -/
structure Fits (x y : PV) : Prop where
  acc : OneAcc x y
  hl1 : x.hi.length = x.lo.length
  hl2 : y.lo.length = x.lo.length
  hl3 : y.hi.length = x.lo.length
  ax : 0 ≤ axR x.lo x.hi y.lo y.hi
  sx : PVS x
  sy : PVS y
/-- a piece joined out of two -/
structure Glue (x y z : PV) : Prop where
  lo : z.lo = x.lo
  hi : z.hi = y.hi
  acc : OneAcc x z
theorem Join_fits (x y : PV) (h : Fits x y) (w : World) (hx : PVI w x) (hy : PVI w y) :
    Calls Try.prog 10 #[.agg #[.slice x.p x.lo.length x.c, .slice x.q x.hi.length x.f, .int .i64 x.k, .int .i64 x.b, .int .i64 x.e, .slice x.g x.s.length x.d, .int .i64 x.st, .int .i64 x.sp, .int .i64 x.md], .agg #[.slice y.p y.lo.length y.c, .slice y.q y.hi.length y.f, .int .i64 y.k, .int .i64 y.b, .int .i64 y.e, .slice y.g y.s.length y.d, .int .i64 y.st, .int .i64 y.sp, .int .i64 y.md]] w fun e w' => (∃ z : PV, e = .returned (.tuple #[.agg #[.slice z.p z.lo.length z.c, .slice z.q z.hi.length z.f, .int .i64 z.k, .int .i64 z.b, .int .i64 z.e, .slice z.g z.s.length z.d, .int .i64 z.st, .int .i64 z.sp, .int .i64 z.md], .bool true]) ∧ PVN w.heap.size w' z ∧ Glue x y z) ∧ Below w.heap.size w w' :=
  (Join_yes x y _ rfl h.ax h.acc h.hl1 h.hl2 h.hl3 h.sx.ll h.sy.lh h.sx.ls w hx hy).mono fun e w' ⟨⟨z, h1, h2, h3, h4, h5⟩, h6⟩ => ⟨⟨z, h1, h2, ⟨h3, h4, h5⟩⟩, h6⟩
/-- what is pushed is there, and the joined piece beside it -/
structure MidSt (w : World) (B b : Nat) (F v : Value) (x y z : PV) (g5 : Nat) (wz : World) : Prop where
  stk : StkSt w B b F v [x, y] wz
  own : Own wz g5 36 [.slice z.p z.lo.length z.c, .slice z.q z.hi.length z.f, .int .i64 z.k, .int .i64 z.b, .int .i64 z.e, .slice z.g z.s.length z.d, .int .i64 z.st, .int .i64 z.sp, .int .i64 z.md]
  new : PVN B wz z
  glue : Glue x y z
theorem mid_L1 {w0 : World} {B b : Nat} {F v : Value} {x y z : PV} {W w1 : World} (h : StkSt w0 B b F v [x, y] W) (hb1 : Below (W.alloc (.cells #[.slice none 0 0, .slice none 0 0, .int .i64 0, .int .i64 0, .int .i64 0, .slice none 0 0, .int .i64 0, .int .i64 0, .int .i64 0] 36)).drew.heap.size (W.alloc (.cells #[.slice none 0 0, .slice none 0 0, .int .i64 0, .int .i64 0, .int .i64 0, .slice none 0 0, .int .i64 0, .int .i64 0, .int .i64 0] 36)).drew w1) (hz : PVN (W.alloc (.cells #[.slice none 0 0, .slice none 0 0, .int .i64 0, .int .i64 0, .int .i64 0, .slice none 0 0, .int .i64 0, .int .i64 0, .int .i64 0] 36)).drew.heap.size w1 z) (hg : Glue x y z) :
    Own w1 W.heap.size 36 [.slice none 0 0, .slice none 0 0, .int .i64 0, .int .i64 0, .int .i64 0, .slice none 0 0, .int .i64 0, .int .i64 0, .int .i64 0] ∧ MidSt w0 B b F v x y z W.heap.size (set9 w1 W.heap.size z) := by
  have h0 : Own (W.alloc (.cells #[.slice none 0 0, .slice none 0 0, .int .i64 0, .int .i64 0, .int .i64 0, .slice none 0 0, .int .i64 0, .int .i64 0, .int .i64 0] 36)).drew W.heap.size 36 [.slice none 0 0, .slice none 0 0, .int .i64 0, .int .i64 0, .int .i64 0, .slice none 0 0, .int .i64 0, .int .i64 0, .int .i64 0] := Own.made W _ [.slice none 0 0, .slice none 0 0, .int .i64 0, .int .i64 0, .int .i64 0, .slice none 0 0, .int .i64 0, .int .i64 0, .int .i64 0] 36 rfl
  have h1 := h0.keep hb1 h0.lt
  have hlt := h.st.lt
  have hB := h.lt
  have h2 := h.keep (below_t ((below_alloc W (.cells #[.slice none 0 0, .slice none 0 0, .int .i64 0, .int .i64 0, .int .i64 0, .slice none 0 0, .int .i64 0, .int .i64 0, .int .i64 0] 36)).drew) hb1)
  have hne : W.heap.size ≠ b := by omega
  refine ⟨h1, ⟨⟨set9_other h2.st hne, ?_, fun y hy => set9_pvn (h2.rows y hy) h1 (by decide), set9_below h2.below hB, h.le⟩, set9_own h1 rfl, (set9_pvn hz h1 (by decide)).mono (by simp; omega), hg⟩⟩
  refine row_block' h2.row fun j hj => ?_
  have hj' := (row_lt h.row hj).2
  exact (set9_below (x := z) (Below.refl W.heap.size w1) (Nat.le_refl _)).block j hj'
theorem mid_L2 {w0 : World} {B b : Nat} {F v : Value} {x y z : PV} {W w1 : World} (h : StkSt w0 B b F v [x, y] W) (hb1 : Below W.drew.heap.size W.drew w1) (hz : PVN W.drew.heap.size w1 z) (hg : Glue x y z) :
    MidSt w0 B b F v x y z w1.heap.size (w1.alloc (.cells #[.slice z.p z.lo.length z.c, .slice z.q z.hi.length z.f, .int .i64 z.k, .int .i64 z.b, .int .i64 z.e, .slice z.g z.s.length z.d, .int .i64 z.st, .int .i64 z.sp, .int .i64 z.md] 36)) := by
  have h2 := h.keep (below_t ((Below.refl _ W).drew) hb1)
  have hba := below_alloc w1 (.cells #[.slice z.p z.lo.length z.c, .slice z.q z.hi.length z.f, .int .i64 z.k, .int .i64 z.b, .int .i64 z.e, .slice z.g z.s.length z.d, .int .i64 z.st, .int .i64 z.sp, .int .i64 z.md] 36)
  exact ⟨h2.keep hba, Own.made w1 _ [_, _, _, _, _, _, _, _, _] _ rfl, (hz.keep hba).mono (by have := h.lt; simpa using this), hg⟩

set_option maxRecDepth 100000 in
set_option maxHeartbeats 1500000 in
theorem push_join (w0 : World) (B b : Nat) (v : Value) (x y : PV) (hF : Fits x y) (w : World) (h : StkSt w0 B b (.func (.func 10) #[] #[]) v [x] w) (hy : PVN B w y) :
    Calls Try.prog 16 #[.pointer (some ⟨b, 0, none⟩), .agg #[.slice y.p y.lo.length y.c, .slice y.q y.hi.length y.f, .int .i64 y.k, .int .i64 y.b, .int .i64 y.e, .slice y.g y.s.length y.d, .int .i64 y.st, .int .i64 y.sp, .int .i64 y.md]] w fun e w' => e = .returned (.tuple #[]) ∧ ∃ v' z, StkSt w0 B b (.func (.func 10) #[] #[]) v' [z] w' ∧ Glue x y z := by
  obtain ⟨W, hW, hg, hbW, OX⟩ : ∃ W, w.alloc (.cells #[.slice y.p y.lo.length y.c, .slice y.q y.hi.length y.f, .int .i64 y.k, .int .i64 y.b, .int .i64 y.e, .slice y.g y.s.length y.d, .int .i64 y.st, .int .i64 y.sp, .int .i64 y.md] 36) = W ∧ W.heap.size = w.heap.size + 1 ∧ Below w.heap.size w W ∧ Own W w.heap.size 36 [.slice y.p y.lo.length y.c, .slice y.q y.hi.length y.f, .int .i64 y.k, .int .i64 y.b, .int .i64 y.e, .slice y.g y.s.length y.d, .int .i64 y.st, .int .i64 y.sp, .int .i64 y.md] := ⟨_, rfl, by simp, below_alloc _ _, Own.made w w.heap.size [.slice y.p y.lo.length y.c, .slice y.q y.hi.length y.f, .int .i64 y.k, .int .i64 y.b, .int .i64 y.e, .slice y.g y.s.length y.d, .int .i64 y.st, .int .i64 y.sp, .int .i64 y.md] _ rfl⟩
  have HW := Lib.hid hW
  have h := h.keep hbW
  have hy := hy.keep hbW
  clear hW hg hbW
  have q0 := h.st.cell (i := 0) rfl
  have x0 := OX.cell (i := 0) rfl
  have x1 := OX.cell (i := 1) rfl
  have x2 := OX.cell (i := 2) rfl
  have x3 := OX.cell (i := 3) rfl
  have x4 := OX.cell (i := 4) rfl
  have x5 := OX.cell (i := 5) rfl
  have x6 := OX.cell (i := 6) rfl
  have x7 := OX.cell (i := 7) rfl
  have x8 := OX.cell (i := 8) rfl
  have qa : ∀ o, (W.alloc o).cell? ⟨b, 0, none⟩ = some v := fun o => ((below_alloc W o).cell (p := ⟨b, 0, none⟩) h.st.lt).trans q0
  have H := Lib.hid h
  have HX := Lib.hid hy
  have HO := Lib.hid OX
  have HFit := Lib.hid hF
  obtain ⟨g1, cap1, rfl, hcap1, -⟩ := row_slice (n := 0) h.row
  clear h hy OX hF
  go_enter Try.func16, Try.ntmps16
  go_wp2_with fail
  rw [HW.out]
  clear HW
  go_upto_region 1 with fail
  go_cut [] (fun wx => ∃ wz v, wz = wx ∧ Hid (StkSt w0 B b (.func (.func 10) #[] #[]) v [x, y] wz))
  case first =>
    refine wp_region_noPanic ?_
    refine wp_region_held_drew (S := (fun _ => True)) (by kernel_rfl) ?_ (fun hHeld => ?_)
    · (try dsimp only); skip
    refine takeH 0 (some 7) (v := ?_) rfl rfl (by kernel_rfl) (by kernel_rfl) (by kernel_rfl) (by rfl) ?_ (by exact hHeld) ?_
    rotate_left
    · intro w hSw; (try dsimp only at hSw); go_simp; try (with_reducible rfl)
    try simp only [Act.put, List.setIfInBounds_toArray, List.set_cons_zero, List.set_cons_succ]
    refine takeH 1 (some 8) (v := ?_) rfl rfl (by kernel_rfl) (by kernel_rfl) (by kernel_rfl) (by rfl) ?_ (by exact hHeld) ?_
    rotate_left
    · intro w hSw; (try dsimp only at hSw); go_simp; try (with_reducible rfl)
    try simp only [Act.put, List.setIfInBounds_toArray, List.set_cons_zero, List.set_cons_succ]
    refine takeH 2 (some 9) (v := ?_) rfl rfl (by kernel_rfl) (by kernel_rfl) (by kernel_rfl) (by rfl) ?_ (by exact hHeld) ?_
    rotate_left
    · intro w hSw; (try dsimp only at hSw); go_simp; try (with_reducible rfl)
    try simp only [Act.put, List.setIfInBounds_toArray, List.set_cons_zero, List.set_cons_succ]
    refine takeH 3 (some 10) (v := ?_) rfl rfl (by kernel_rfl) (by kernel_rfl) (by kernel_rfl) (by rfl) ?_ (by exact hHeld) ?_
    rotate_left
    · intro w hSw; (try dsimp only at hSw); go_simp; try (with_reducible rfl)
    try simp only [Act.put, List.setIfInBounds_toArray, List.set_cons_zero, List.set_cons_succ]
    refine wpAnyH_ready (rs := [4, 5]) (by kernel_rfl) (by simp) ?_
    refine stepH 4 rfl (by rfl) (fun K hK => ?_) ?_
    · go_simp
      refine hK.out _ _ ?_ (fun hNew => ?_)
      · (try dsimp only); skip
      clear hK K hHeld
      have hHeld := hNew
      clear hNew
      try dsimp only at hHeld
      try simp only [Act.put, List.setIfInBounds_toArray, List.set_cons_zero, List.set_cons_succ]
      refine wpAnyH_ready (rs := [5]) (by kernel_rfl) (by simp) ?_
      refine stepH 5 rfl (by rfl) (fun K hK => ?_) ?_
      · go_simp
        refine hK.out _ _ ?_ (fun hNew => ?_)
        · (try dsimp only); skip
        clear hK K hHeld
        have hHeld := hNew
        clear hNew
        try dsimp only at hHeld
        try simp only [Act.put, List.setIfInBounds_toArray, List.set_cons_zero, List.set_cons_succ]
        refine wpAnyH_ready (rs := [6]) (by kernel_rfl) (by simp) ?_
        refine stepH 6 rfl (by rfl) (fun K hK => ?_) ?_
        · go_simp
          refine hK.out _ _ ?_ (fun hNew => ?_)
          · (try dsimp only); skip
          clear hK K hHeld
          have hHeld := hNew
          clear hNew
          try dsimp only at hHeld
          try simp only [Act.put, List.setIfInBounds_toArray, List.set_cons_zero, List.set_cons_succ]
          refine wpAnyH_ready (rs := [7]) (by kernel_rfl) (by simp) ?_
          refine stepH 7 rfl (by rfl) (fun K hK => ?_) ?_
          · (refine wp_append_piece _ _ rfl B (.slice (some ⟨g1, 0, none⟩) (0 + 1) cap1) 1 (flatP [x]) rfl (H.out.keep (below_t (Below.refl _ W).drew (below_alloc W.drew _))).row W.heap.size 1 [.slice y.p y.lo.length y.c, .slice y.q y.hi.length y.f, .int .i64 y.k, .int .i64 y.b, .int .i64 y.e, .slice y.g y.s.length y.d, .int .i64 y.st, .int .i64 y.sp, .int .i64 y.md] rfl rfl (Own.made W.drew W.heap.size [.slice y.p y.lo.length y.c, .slice y.q y.hi.length y.f, .int .i64 y.k, .int .i64 y.b, .int .i64 y.e, .slice y.g y.s.length y.d, .int .i64 y.st, .int .i64 y.sp, .int .i64 y.md] _ rfl) vals_one (by omega) (by have := H.out.lt; simp; omega) ?_); intro v5 w5 hr5 hg5; obtain ⟨g5, cap5, rfl, -, -⟩ := row_slice hr5; have st5 := stk_st ((H.out.keep (below_t (Below.refl _ W).drew (below_alloc W.drew (.cells #[.slice y.p y.lo.length y.c, .slice y.q y.hi.length y.f, .int .i64 y.k, .int .i64 y.b, .int .i64 y.e, .slice y.g y.s.length y.d, .int .i64 y.st, .int .i64 y.sp, .int .i64 y.md] 36)))).st) (H.out.keep (below_t (Below.refl _ W).drew (below_alloc W.drew _))).row hg5; have q5 := st5.cell (i := 0) rfl; have f5 := st5.frozen 0
            refine hK.out _ _ ?_ (fun hNew => ?_)
            · (try dsimp only); skip
            clear hK K hHeld
            have hHeld := hNew
            clear hNew
            try dsimp only at hHeld
            try simp only [Act.put, List.setIfInBounds_toArray, List.set_cons_zero, List.set_cons_succ]
            refine takeH 8 (some 15) (v := ?_) rfl rfl (by kernel_rfl) (by kernel_rfl) (by kernel_rfl) (by rfl) ?_ (by exact hHeld) ?_
            rotate_left
            · intro w hSw; (try dsimp only at hSw); go_simp; try (with_reducible rfl)
            try simp only [Act.put, List.setIfInBounds_toArray, List.set_cons_zero, List.set_cons_succ]
            refine takeH 9 (some 16) (v := ?_) rfl rfl (by kernel_rfl) (by kernel_rfl) (by kernel_rfl) (by rfl) ?_ (by exact hHeld) ?_
            rotate_left
            · intro w hSw; (try dsimp only at hSw); go_simp; try (with_reducible rfl)
            try simp only [Act.put, List.setIfInBounds_toArray, List.set_cons_zero, List.set_cons_succ]
            refine wpAnyH_ready (rs := [10]) (by kernel_rfl) (by simp) ?_
            refine stepH 10 rfl (by rfl) (fun K hK => ?_) ?_
            · go_simp
              refine hK.out _ _ ?_ (fun hNew => ?_)
              · (try dsimp only); skip
              clear hK K hHeld
              have hHeld := hNew
              clear hNew
              try dsimp only at hHeld
              try simp only [Act.put, List.setIfInBounds_toArray, List.set_cons_zero, List.set_cons_succ]
              refine wpAnyH_done (by kernel_rfl) ?_ _
              refine NoPanic.normal ?_
              go_wp2_with fail
              all_goals go_meet
              exact ⟨_, _, rfl, stk_put ((H.out.keep (below_t (Below.refl _ W).drew (below_alloc W.drew (.cells #[.slice y.p y.lo.length y.c, .slice y.q y.hi.length y.f, .int .i64 y.k, .int .i64 y.b, .int .i64 y.e, .slice y.g y.s.length y.d, .int .i64 y.st, .int .i64 y.sp, .int .i64 y.md] 36)))).st) (H.out.keep (below_t (Below.refl _ W).drew (below_alloc W.drew _))).row hg5 (ys := [x, y]) hr5 rfl (fun u hu => by rcases List.mem_cons.1 hu with rfl | hu; (exact (H.out.keep (below_t (Below.refl _ W).drew (below_alloc W.drew _))).rows u (List.mem_cons_self ..)); obtain rfl := List.mem_singleton.1 hu; exact HX.out.keep (below_t (Below.refl _ W).drew (below_alloc W.drew _))) (H.out.keep (below_t (Below.refl _ W).drew (below_alloc W.drew _))).below H.out.le⟩
            exact AllReadyH.nil
          exact AllReadyH.nil
        exact AllReadyH.nil
      exact AllReadyH.nil
    refine stepH 5 rfl (by rfl) (fun K hK => ?_) ?_
    · go_simp
      refine hK.out _ _ ?_ (fun hNew => ?_)
      · (try dsimp only); skip
      clear hK K hHeld
      have hHeld := hNew
      clear hNew
      try dsimp only at hHeld
      try simp only [Act.put, List.setIfInBounds_toArray, List.set_cons_zero, List.set_cons_succ]
      refine wpAnyH_ready (rs := [4, 6]) (by kernel_rfl) (by simp) ?_
      refine stepH 4 rfl (by rfl) (fun K hK => ?_) ?_
      · go_simp
        refine hK.out _ _ ?_ (fun hNew => ?_)
        · (try dsimp only); skip
        clear hK K hHeld
        have hHeld := hNew
        clear hNew
        try dsimp only at hHeld
        try simp only [Act.put, List.setIfInBounds_toArray, List.set_cons_zero, List.set_cons_succ]
        refine wpAnyH_ready (rs := [6]) (by kernel_rfl) (by simp) ?_
        refine stepH 6 rfl (by rfl) (fun K hK => ?_) ?_
        · go_simp
          refine hK.out _ _ ?_ (fun hNew => ?_)
          · (try dsimp only); skip
          clear hK K hHeld
          have hHeld := hNew
          clear hNew
          try dsimp only at hHeld
          try simp only [Act.put, List.setIfInBounds_toArray, List.set_cons_zero, List.set_cons_succ]
          refine wpAnyH_ready (rs := [7]) (by kernel_rfl) (by simp) ?_
          refine stepH 7 rfl (by rfl) (fun K hK => ?_) ?_
          · (refine wp_append_piece _ _ rfl B (.slice (some ⟨g1, 0, none⟩) (0 + 1) cap1) 1 (flatP [x]) rfl (H.out.keep (below_t (Below.refl _ W).drew (below_alloc W.drew _))).row W.heap.size 1 [.slice y.p y.lo.length y.c, .slice y.q y.hi.length y.f, .int .i64 y.k, .int .i64 y.b, .int .i64 y.e, .slice y.g y.s.length y.d, .int .i64 y.st, .int .i64 y.sp, .int .i64 y.md] rfl rfl (Own.made W.drew W.heap.size [.slice y.p y.lo.length y.c, .slice y.q y.hi.length y.f, .int .i64 y.k, .int .i64 y.b, .int .i64 y.e, .slice y.g y.s.length y.d, .int .i64 y.st, .int .i64 y.sp, .int .i64 y.md] _ rfl) vals_one (by omega) (by have := H.out.lt; simp; omega) ?_); intro v5 w5 hr5 hg5; obtain ⟨g5, cap5, rfl, -, -⟩ := row_slice hr5; have st5 := stk_st ((H.out.keep (below_t (Below.refl _ W).drew (below_alloc W.drew (.cells #[.slice y.p y.lo.length y.c, .slice y.q y.hi.length y.f, .int .i64 y.k, .int .i64 y.b, .int .i64 y.e, .slice y.g y.s.length y.d, .int .i64 y.st, .int .i64 y.sp, .int .i64 y.md] 36)))).st) (H.out.keep (below_t (Below.refl _ W).drew (below_alloc W.drew _))).row hg5; have q5 := st5.cell (i := 0) rfl; have f5 := st5.frozen 0
            refine hK.out _ _ ?_ (fun hNew => ?_)
            · (try dsimp only); skip
            clear hK K hHeld
            have hHeld := hNew
            clear hNew
            try dsimp only at hHeld
            try simp only [Act.put, List.setIfInBounds_toArray, List.set_cons_zero, List.set_cons_succ]
            refine takeH 8 (some 15) (v := ?_) rfl rfl (by kernel_rfl) (by kernel_rfl) (by kernel_rfl) (by rfl) ?_ (by exact hHeld) ?_
            rotate_left
            · intro w hSw; (try dsimp only at hSw); go_simp; try (with_reducible rfl)
            try simp only [Act.put, List.setIfInBounds_toArray, List.set_cons_zero, List.set_cons_succ]
            refine takeH 9 (some 16) (v := ?_) rfl rfl (by kernel_rfl) (by kernel_rfl) (by kernel_rfl) (by rfl) ?_ (by exact hHeld) ?_
            rotate_left
            · intro w hSw; (try dsimp only at hSw); go_simp; try (with_reducible rfl)
            try simp only [Act.put, List.setIfInBounds_toArray, List.set_cons_zero, List.set_cons_succ]
            refine wpAnyH_ready (rs := [10]) (by kernel_rfl) (by simp) ?_
            refine stepH 10 rfl (by rfl) (fun K hK => ?_) ?_
            · go_simp
              refine hK.out _ _ ?_ (fun hNew => ?_)
              · (try dsimp only); skip
              clear hK K hHeld
              have hHeld := hNew
              clear hNew
              try dsimp only at hHeld
              try simp only [Act.put, List.setIfInBounds_toArray, List.set_cons_zero, List.set_cons_succ]
              refine wpAnyH_done (by kernel_rfl) ?_ _
              refine NoPanic.normal ?_
              go_wp2_with fail
              all_goals go_meet
              exact ⟨_, _, rfl, stk_put ((H.out.keep (below_t (Below.refl _ W).drew (below_alloc W.drew (.cells #[.slice y.p y.lo.length y.c, .slice y.q y.hi.length y.f, .int .i64 y.k, .int .i64 y.b, .int .i64 y.e, .slice y.g y.s.length y.d, .int .i64 y.st, .int .i64 y.sp, .int .i64 y.md] 36)))).st) (H.out.keep (below_t (Below.refl _ W).drew (below_alloc W.drew _))).row hg5 (ys := [x, y]) hr5 rfl (fun u hu => by rcases List.mem_cons.1 hu with rfl | hu; (exact (H.out.keep (below_t (Below.refl _ W).drew (below_alloc W.drew _))).rows u (List.mem_cons_self ..)); obtain rfl := List.mem_singleton.1 hu; exact HX.out.keep (below_t (Below.refl _ W).drew (below_alloc W.drew _))) (H.out.keep (below_t (Below.refl _ W).drew (below_alloc W.drew _))).below H.out.le⟩
            exact AllReadyH.nil
          exact AllReadyH.nil
        exact AllReadyH.nil
      refine stepH 6 rfl (by rfl) (fun K hK => ?_) ?_
      · go_simp
        refine hK.out _ _ ?_ (fun hNew => ?_)
        · (try dsimp only); skip
        clear hK K hHeld
        have hHeld := hNew
        clear hNew
        try dsimp only at hHeld
        try simp only [Act.put, List.setIfInBounds_toArray, List.set_cons_zero, List.set_cons_succ]
        refine wpAnyH_ready (rs := [4]) (by kernel_rfl) (by simp) ?_
        refine stepH 4 rfl (by rfl) (fun K hK => ?_) ?_
        · go_simp
          refine hK.out _ _ ?_ (fun hNew => ?_)
          · (try dsimp only); skip
          clear hK K hHeld
          have hHeld := hNew
          clear hNew
          try dsimp only at hHeld
          try simp only [Act.put, List.setIfInBounds_toArray, List.set_cons_zero, List.set_cons_succ]
          refine wpAnyH_ready (rs := [7]) (by kernel_rfl) (by simp) ?_
          refine stepH 7 rfl (by rfl) (fun K hK => ?_) ?_
          · (refine wp_append_piece _ _ rfl B (.slice (some ⟨g1, 0, none⟩) (0 + 1) cap1) 1 (flatP [x]) rfl (H.out.keep (below_t (Below.refl _ W).drew (below_alloc W.drew _))).row W.heap.size 1 [.slice y.p y.lo.length y.c, .slice y.q y.hi.length y.f, .int .i64 y.k, .int .i64 y.b, .int .i64 y.e, .slice y.g y.s.length y.d, .int .i64 y.st, .int .i64 y.sp, .int .i64 y.md] rfl rfl (Own.made W.drew W.heap.size [.slice y.p y.lo.length y.c, .slice y.q y.hi.length y.f, .int .i64 y.k, .int .i64 y.b, .int .i64 y.e, .slice y.g y.s.length y.d, .int .i64 y.st, .int .i64 y.sp, .int .i64 y.md] _ rfl) vals_one (by omega) (by have := H.out.lt; simp; omega) ?_); intro v5 w5 hr5 hg5; obtain ⟨g5, cap5, rfl, -, -⟩ := row_slice hr5; have st5 := stk_st ((H.out.keep (below_t (Below.refl _ W).drew (below_alloc W.drew (.cells #[.slice y.p y.lo.length y.c, .slice y.q y.hi.length y.f, .int .i64 y.k, .int .i64 y.b, .int .i64 y.e, .slice y.g y.s.length y.d, .int .i64 y.st, .int .i64 y.sp, .int .i64 y.md] 36)))).st) (H.out.keep (below_t (Below.refl _ W).drew (below_alloc W.drew _))).row hg5; have q5 := st5.cell (i := 0) rfl; have f5 := st5.frozen 0
            refine hK.out _ _ ?_ (fun hNew => ?_)
            · (try dsimp only); skip
            clear hK K hHeld
            have hHeld := hNew
            clear hNew
            try dsimp only at hHeld
            try simp only [Act.put, List.setIfInBounds_toArray, List.set_cons_zero, List.set_cons_succ]
            refine takeH 8 (some 15) (v := ?_) rfl rfl (by kernel_rfl) (by kernel_rfl) (by kernel_rfl) (by rfl) ?_ (by exact hHeld) ?_
            rotate_left
            · intro w hSw; (try dsimp only at hSw); go_simp; try (with_reducible rfl)
            try simp only [Act.put, List.setIfInBounds_toArray, List.set_cons_zero, List.set_cons_succ]
            refine takeH 9 (some 16) (v := ?_) rfl rfl (by kernel_rfl) (by kernel_rfl) (by kernel_rfl) (by rfl) ?_ (by exact hHeld) ?_
            rotate_left
            · intro w hSw; (try dsimp only at hSw); go_simp; try (with_reducible rfl)
            try simp only [Act.put, List.setIfInBounds_toArray, List.set_cons_zero, List.set_cons_succ]
            refine wpAnyH_ready (rs := [10]) (by kernel_rfl) (by simp) ?_
            refine stepH 10 rfl (by rfl) (fun K hK => ?_) ?_
            · go_simp
              refine hK.out _ _ ?_ (fun hNew => ?_)
              · (try dsimp only); skip
              clear hK K hHeld
              have hHeld := hNew
              clear hNew
              try dsimp only at hHeld
              try simp only [Act.put, List.setIfInBounds_toArray, List.set_cons_zero, List.set_cons_succ]
              refine wpAnyH_done (by kernel_rfl) ?_ _
              refine NoPanic.normal ?_
              go_wp2_with fail
              all_goals go_meet
              exact ⟨_, _, rfl, stk_put ((H.out.keep (below_t (Below.refl _ W).drew (below_alloc W.drew (.cells #[.slice y.p y.lo.length y.c, .slice y.q y.hi.length y.f, .int .i64 y.k, .int .i64 y.b, .int .i64 y.e, .slice y.g y.s.length y.d, .int .i64 y.st, .int .i64 y.sp, .int .i64 y.md] 36)))).st) (H.out.keep (below_t (Below.refl _ W).drew (below_alloc W.drew _))).row hg5 (ys := [x, y]) hr5 rfl (fun u hu => by rcases List.mem_cons.1 hu with rfl | hu; (exact (H.out.keep (below_t (Below.refl _ W).drew (below_alloc W.drew _))).rows u (List.mem_cons_self ..)); obtain rfl := List.mem_singleton.1 hu; exact HX.out.keep (below_t (Below.refl _ W).drew (below_alloc W.drew _))) (H.out.keep (below_t (Below.refl _ W).drew (below_alloc W.drew _))).below H.out.le⟩
            exact AllReadyH.nil
          exact AllReadyH.nil
        exact AllReadyH.nil
      exact AllReadyH.nil
    exact AllReadyH.nil
  case rest =>
    obtain ⟨wz, v, rfl, HS⟩ := hcut
    clear q0 qa x0 x1 x2 x3 x4 x5 x6 x7 x8 H HX HO
    obtain ⟨g, cap, rfl, hcap, -⟩ := row_slice (n := 1) HS.out.row
    have hog := row_own HS.out.row rfl
    have hbl := HS.out.st.lt
    have hgl := hog.lt
    have q0 := HS.out.st.cell (i := 0) rfl
    have q1 := HS.out.st.cell (i := 1) rfl
    have x0 := hog.cell (i := 0) rfl
    have x1 := hog.cell (i := 1) rfl
    have x2 := hog.cell (i := 2) rfl
    have x3 := hog.cell (i := 3) rfl
    have x4 := hog.cell (i := 4) rfl
    have x5 := hog.cell (i := 5) rfl
    have x6 := hog.cell (i := 6) rfl
    have x7 := hog.cell (i := 7) rfl
    have x8 := hog.cell (i := 8) rfl
    have x9 := hog.cell (i := 9) rfl
    have x10 := hog.cell (i := 10) rfl
    have x11 := hog.cell (i := 11) rfl
    have x12 := hog.cell (i := 12) rfl
    have x13 := hog.cell (i := 13) rfl
    have x14 := hog.cell (i := 14) rfl
    have x15 := hog.cell (i := 15) rfl
    have x16 := hog.cell (i := 16) rfl
    have x17 := hog.cell (i := 17) rfl
    have ix : PVI wz x := (HS.out.rows x (by simp)).ints HFit.out.sx
    have iy : PVI wz y := (HS.out.rows y (by simp)).ints HFit.out.sy
    have IX := Lib.hid ix
    have IY := Lib.hid iy
    have hc2 : (2 : Int) ≤ (cap : Int) := by omega
    have hw0 : IntKind.i64.wrap 0 = 0 := by decide
    have hw1 : IntKind.i64.wrap 1 = 1 := by decide
    have hw2 : IntKind.i64.wrap 2 = 2 := by decide
    clear ix iy hog
    go_wp2_with fail
    refine wp_loop_rounds 2 ?_
    rw [rounds_succ]
    go_upto_region 5 with fail
    go_cut [5, 6] (fun t u wx => ∃ g5 z wy, t = .pointer (some ⟨g5, 0, none⟩) ∧ u = .bool true ∧ wy = wx ∧ Hid (MidSt w0 B b (.func (.func 10) #[] #[]) (.slice (some ⟨g, 0, none⟩) (1 + 1) cap) x y z g5 wy))
    case first =>
      refine wp_region_noPanic ?_
      refine wp_region_held_drew (S := (fun z => Below wz.heap.size wz z)) (by kernel_rfl) ?_ (fun hHeld => ?_)
      · (try dsimp only); exact (Below.refl _ wz).drew
      refine takeH 0 (some 30) (v := ?_) rfl rfl (by kernel_rfl) (by kernel_rfl) (by kernel_rfl) (by rfl) ?_ (by exact hHeld) ?_
      rotate_left
      · intro w hSw; (try dsimp only at hSw); have e1 := fun i => hSw.cell (p := ⟨b, i, none⟩) hbl; have e2 := fun i => hSw.cell (p := ⟨g, i, none⟩) hgl; go_simp; try (with_reducible rfl)
      try simp only [Act.put, List.setIfInBounds_toArray, List.set_cons_zero, List.set_cons_succ]
      refine takeH 1 (some 31) (v := ?_) rfl rfl (by kernel_rfl) (by kernel_rfl) (by kernel_rfl) (by rfl) ?_ (by exact hHeld) ?_
      rotate_left
      · intro w hSw; (try dsimp only at hSw); have e1 := fun i => hSw.cell (p := ⟨b, i, none⟩) hbl; have e2 := fun i => hSw.cell (p := ⟨g, i, none⟩) hgl; go_simp; try (with_reducible rfl)
      try simp only [Act.put, List.setIfInBounds_toArray, List.set_cons_zero, List.set_cons_succ]
      refine takeH 2 (some 32) (v := ?_) rfl rfl (by kernel_rfl) (by kernel_rfl) (by kernel_rfl) (by rfl) ?_ (by exact hHeld) ?_
      rotate_left
      · intro w hSw; (try dsimp only at hSw); have e1 := fun i => hSw.cell (p := ⟨b, i, none⟩) hbl; have e2 := fun i => hSw.cell (p := ⟨g, i, none⟩) hgl; go_simp; try (with_reducible rfl)
      try simp only [Act.put, List.setIfInBounds_toArray, List.set_cons_zero, List.set_cons_succ]
      refine takeH 3 (some 33) (v := ?_) rfl rfl (by kernel_rfl) (by kernel_rfl) (by kernel_rfl) (by rfl) ?_ (by exact hHeld) ?_
      rotate_left
      · intro w hSw; (try dsimp only at hSw); have e1 := fun i => hSw.cell (p := ⟨b, i, none⟩) hbl; have e2 := fun i => hSw.cell (p := ⟨g, i, none⟩) hgl; go_simp; try (with_reducible rfl)
      try simp only [Act.put, List.setIfInBounds_toArray, List.set_cons_zero, List.set_cons_succ]
      refine takeH 4 (some 34) (v := ?_) rfl rfl (by kernel_rfl) (by kernel_rfl) (by kernel_rfl) (by rfl) ?_ (by exact hHeld) ?_
      rotate_left
      · intro w hSw; (try dsimp only at hSw); have e1 := fun i => hSw.cell (p := ⟨b, i, none⟩) hbl; have e2 := fun i => hSw.cell (p := ⟨g, i, none⟩) hgl; go_simp; try (with_reducible rfl)
      try simp only [Act.put, List.setIfInBounds_toArray, List.set_cons_zero, List.set_cons_succ]
      refine takeH 5 (some 35) (v := ?_) rfl rfl (by kernel_rfl) (by kernel_rfl) (by kernel_rfl) (by rfl) ?_ (by exact hHeld) ?_
      rotate_left
      · intro w hSw; (try dsimp only at hSw); have e1 := fun i => hSw.cell (p := ⟨b, i, none⟩) hbl; have e2 := fun i => hSw.cell (p := ⟨g, i, none⟩) hgl; go_simp; try (with_reducible rfl)
      try simp only [Act.put, List.setIfInBounds_toArray, List.set_cons_zero, List.set_cons_succ]
      refine takeH 6 (some 36) (v := ?_) rfl rfl (by kernel_rfl) (by kernel_rfl) (by kernel_rfl) (by rfl) ?_ (by exact hHeld) ?_
      rotate_left
      · intro w hSw; (try dsimp only at hSw); have e1 := fun i => hSw.cell (p := ⟨b, i, none⟩) hbl; have e2 := fun i => hSw.cell (p := ⟨g, i, none⟩) hgl; go_simp; try (with_reducible rfl)
      try simp only [Act.put, List.setIfInBounds_toArray, List.set_cons_zero, List.set_cons_succ]
      refine takeH 7 (some 37) (v := ?_) rfl rfl (by kernel_rfl) (by kernel_rfl) (by kernel_rfl) (by rfl) ?_ (by exact hHeld) ?_
      rotate_left
      · intro w hSw; (try dsimp only at hSw); have e1 := fun i => hSw.cell (p := ⟨b, i, none⟩) hbl; have e2 := fun i => hSw.cell (p := ⟨g, i, none⟩) hgl; go_simp; try (with_reducible rfl)
      try simp only [Act.put, List.setIfInBounds_toArray, List.set_cons_zero, List.set_cons_succ]
      refine takeH 8 (some 38) (v := ?_) rfl rfl (by kernel_rfl) (by kernel_rfl) (by kernel_rfl) (by rfl) ?_ (by exact hHeld) ?_
      rotate_left
      · intro w hSw; (try dsimp only at hSw); have e1 := fun i => hSw.cell (p := ⟨b, i, none⟩) hbl; have e2 := fun i => hSw.cell (p := ⟨g, i, none⟩) hgl; go_simp; try (with_reducible rfl)
      try simp only [Act.put, List.setIfInBounds_toArray, List.set_cons_zero, List.set_cons_succ]
      refine takeH 9 (some 39) (v := ?_) rfl rfl (by kernel_rfl) (by kernel_rfl) (by kernel_rfl) (by rfl) ?_ (by exact hHeld) ?_
      rotate_left
      · intro w hSw; (try dsimp only at hSw); have e1 := fun i => hSw.cell (p := ⟨b, i, none⟩) hbl; have e2 := fun i => hSw.cell (p := ⟨g, i, none⟩) hgl; go_simp; try (with_reducible rfl)
      try simp only [Act.put, List.setIfInBounds_toArray, List.set_cons_zero, List.set_cons_succ]
      refine takeH 10 (some 40) (v := ?_) rfl rfl (by kernel_rfl) (by kernel_rfl) (by kernel_rfl) (by rfl) ?_ (by exact hHeld) ?_
      rotate_left
      · intro w hSw; (try dsimp only at hSw); have e1 := fun i => hSw.cell (p := ⟨b, i, none⟩) hbl; have e2 := fun i => hSw.cell (p := ⟨g, i, none⟩) hgl; go_simp; try (with_reducible rfl)
      try simp only [Act.put, List.setIfInBounds_toArray, List.set_cons_zero, List.set_cons_succ]
      refine takeH 11 (some 41) (v := ?_) rfl rfl (by kernel_rfl) (by kernel_rfl) (by kernel_rfl) (by rfl) ?_ (by exact hHeld) ?_
      rotate_left
      · intro w hSw; (try dsimp only at hSw); have e1 := fun i => hSw.cell (p := ⟨b, i, none⟩) hbl; have e2 := fun i => hSw.cell (p := ⟨g, i, none⟩) hgl; go_simp; try (with_reducible rfl)
      try simp only [Act.put, List.setIfInBounds_toArray, List.set_cons_zero, List.set_cons_succ]
      refine takeH 12 (some 42) (v := ?_) rfl rfl (by kernel_rfl) (by kernel_rfl) (by kernel_rfl) (by rfl) ?_ (by exact hHeld) ?_
      rotate_left
      · intro w hSw; (try dsimp only at hSw); have e1 := fun i => hSw.cell (p := ⟨b, i, none⟩) hbl; have e2 := fun i => hSw.cell (p := ⟨g, i, none⟩) hgl; go_simp; try (with_reducible rfl)
      try simp only [Act.put, List.setIfInBounds_toArray, List.set_cons_zero, List.set_cons_succ]
      refine takeH 13 (some 43) (v := ?_) rfl rfl (by kernel_rfl) (by kernel_rfl) (by kernel_rfl) (by rfl) ?_ (by exact hHeld) ?_
      rotate_left
      · intro w hSw; (try dsimp only at hSw); have e1 := fun i => hSw.cell (p := ⟨b, i, none⟩) hbl; have e2 := fun i => hSw.cell (p := ⟨g, i, none⟩) hgl; go_simp; try (with_reducible rfl)
      try simp only [Act.put, List.setIfInBounds_toArray, List.set_cons_zero, List.set_cons_succ]
      refine takeH 14 (some 44) (v := ?_) rfl rfl (by kernel_rfl) (by kernel_rfl) (by kernel_rfl) (by rfl) ?_ (by exact hHeld) ?_
      rotate_left
      · intro w hSw; (try dsimp only at hSw); have e1 := fun i => hSw.cell (p := ⟨b, i, none⟩) hbl; have e2 := fun i => hSw.cell (p := ⟨g, i, none⟩) hgl; go_simp; try (with_reducible rfl)
      try simp only [Act.put, List.setIfInBounds_toArray, List.set_cons_zero, List.set_cons_succ]
      refine takeH 15 (some 45) (v := ?_) rfl rfl (by kernel_rfl) (by kernel_rfl) (by kernel_rfl) (by rfl) ?_ (by exact hHeld) ?_
      rotate_left
      · intro w hSw; (try dsimp only at hSw); have e1 := fun i => hSw.cell (p := ⟨b, i, none⟩) hbl; have e2 := fun i => hSw.cell (p := ⟨g, i, none⟩) hgl; go_simp; try (with_reducible rfl)
      try simp only [Act.put, List.setIfInBounds_toArray, List.set_cons_zero, List.set_cons_succ]
      refine takeH 16 (some 46) (v := ?_) rfl rfl (by kernel_rfl) (by kernel_rfl) (by kernel_rfl) (by rfl) ?_ (by exact hHeld) ?_
      rotate_left
      · intro w hSw; (try dsimp only at hSw); have e1 := fun i => hSw.cell (p := ⟨b, i, none⟩) hbl; have e2 := fun i => hSw.cell (p := ⟨g, i, none⟩) hgl; go_simp; try (with_reducible rfl)
      try simp only [Act.put, List.setIfInBounds_toArray, List.set_cons_zero, List.set_cons_succ]
      refine takeH 17 (some 47) (v := ?_) rfl rfl (by kernel_rfl) (by kernel_rfl) (by kernel_rfl) (by rfl) ?_ (by exact hHeld) ?_
      rotate_left
      · intro w hSw; (try dsimp only at hSw); have e1 := fun i => hSw.cell (p := ⟨b, i, none⟩) hbl; have e2 := fun i => hSw.cell (p := ⟨g, i, none⟩) hgl; go_simp; try (with_reducible rfl)
      try simp only [Act.put, List.setIfInBounds_toArray, List.set_cons_zero, List.set_cons_succ]
      refine takeH 18 (some 48) (v := ?_) rfl rfl (by kernel_rfl) (by kernel_rfl) (by kernel_rfl) (by rfl) ?_ (by exact hHeld) ?_
      rotate_left
      · intro w hSw; (try dsimp only at hSw); have e1 := fun i => hSw.cell (p := ⟨b, i, none⟩) hbl; have e2 := fun i => hSw.cell (p := ⟨g, i, none⟩) hgl; go_simp; try (with_reducible rfl)
      try simp only [Act.put, List.setIfInBounds_toArray, List.set_cons_zero, List.set_cons_succ]
      refine takeH 19 (some 49) (v := ?_) rfl rfl (by kernel_rfl) (by kernel_rfl) (by kernel_rfl) (by rfl) ?_ (by exact hHeld) ?_
      rotate_left
      · intro w hSw; (try dsimp only at hSw); have e1 := fun i => hSw.cell (p := ⟨b, i, none⟩) hbl; have e2 := fun i => hSw.cell (p := ⟨g, i, none⟩) hgl; go_simp; try (with_reducible rfl)
      try simp only [Act.put, List.setIfInBounds_toArray, List.set_cons_zero, List.set_cons_succ]
      refine wpAnyH_ready (rs := [20, 24]) (by kernel_rfl) (by simp) ?_
      refine stepH 20 rfl (by rfl) (fun K hK => ?_) ?_
      · go_simp
        ((with_reducible refine (Join_fits x y HFit.out _ ?_ ?_).mono ?_); (exact ⟨IX.out.lo.keep hHeld, IX.out.hi.keep hHeld, IX.out.s.keep hHeld⟩); (exact ⟨IY.out.lo.keep hHeld, IY.out.hi.keep hHeld, IY.out.s.keep hHeld⟩); rintro e1 w1 ⟨⟨z1, rfl, hn1, hgl1⟩, hb1⟩)
        refine hK.out _ _ ?_ (fun hNew => ?_)
        · (try dsimp only); first | exact hS13 | exact below_t hHeld hb1 | exact below_t hHeld (below_alloc _ _)
        clear hK K hHeld
        have hHeld := hNew
        clear hNew
        try dsimp only at hHeld
        try simp only [Act.put, List.setIfInBounds_toArray, List.set_cons_zero, List.set_cons_succ]
        refine takeH 21 (some 29) (v := ?_) rfl rfl (by kernel_rfl) (by kernel_rfl) (by kernel_rfl) (by rfl) ?_ (by exact hHeld) ?_
        rotate_left
        · intro w hSw; (try dsimp only at hSw); have e1 := fun i => hSw.cell (p := ⟨b, i, none⟩) hbl; have e2 := fun i => hSw.cell (p := ⟨g, i, none⟩) hgl; go_simp; try (with_reducible rfl)
        try simp only [Act.put, List.setIfInBounds_toArray, List.set_cons_zero, List.set_cons_succ]
        refine takeH 22 (some 51) (v := ?_) rfl rfl (by kernel_rfl) (by kernel_rfl) (by kernel_rfl) (by rfl) ?_ (by exact hHeld) ?_
        rotate_left
        · intro w hSw; (try dsimp only at hSw); have e1 := fun i => hSw.cell (p := ⟨b, i, none⟩) hbl; have e2 := fun i => hSw.cell (p := ⟨g, i, none⟩) hgl; go_simp; try (with_reducible rfl)
        try simp only [Act.put, List.setIfInBounds_toArray, List.set_cons_zero, List.set_cons_succ]
        refine takeH 23 (some 52) (v := ?_) rfl rfl (by kernel_rfl) (by kernel_rfl) (by kernel_rfl) (by rfl) ?_ (by exact hHeld) ?_
        rotate_left
        · intro w hSw; (try dsimp only at hSw); have e1 := fun i => hSw.cell (p := ⟨b, i, none⟩) hbl; have e2 := fun i => hSw.cell (p := ⟨g, i, none⟩) hgl; go_simp; try (with_reducible rfl)
        try simp only [Act.put, List.setIfInBounds_toArray, List.set_cons_zero, List.set_cons_succ]
        refine wpAnyH_ready (rs := [24]) (by kernel_rfl) (by simp) ?_
        refine stepH 24 rfl (by rfl) (fun K hK => ?_) ?_
        · go_simp
          refine hK.out _ _ ?_ (fun hNew => ?_)
          · (try dsimp only); first | exact hS13 | exact below_t hHeld hb1 | exact below_t hHeld (below_alloc _ _)
          clear hK K hHeld
          have hHeld := hNew
          clear hNew
          try dsimp only at hHeld
          try simp only [Act.put, List.setIfInBounds_toArray, List.set_cons_zero, List.set_cons_succ]
          refine wpAnyH_ready (rs := [25]) (by kernel_rfl) (by simp) ?_
          refine stepH 25 rfl (by rfl) (fun K hK => ?_) ?_
          · (first | (have hL9 := mid_L1 HS.out hb1 hn1 hgl1; obtain ⟨hO9, hM9⟩ := hL9; have hS13 := set9_below (x := z1) hHeld (Nat.le_refl _)) | (have hM9 := mid_L2 HS.out hb1 hn1 hgl1; have hS13 := below_t (below_t ((Below.refl _ wz).drew) hb1) (below_alloc w1 (.cells #[.slice z1.p z1.lo.length z1.c, .slice z1.q z1.hi.length z1.f, .int .i64 z1.k, .int .i64 z1.b, .int .i64 z1.e, .slice z1.g z1.s.length z1.d, .int .i64 z1.st, .int .i64 z1.sp, .int .i64 z1.md] 36)))); have HM9 := Lib.hid hM9; (try have t0 := hO9.cell (i := 0) rfl); (try have f0 := hO9.frozen 0); (try have t1 := hO9.cell (i := 1) rfl); (try have f1 := hO9.frozen 1); (try have t2 := hO9.cell (i := 2) rfl); (try have f2 := hO9.frozen 2); (try have t3 := hO9.cell (i := 3) rfl); (try have f3 := hO9.frozen 3); (try have t4 := hO9.cell (i := 4) rfl); (try have f4 := hO9.frozen 4); (try have t5 := hO9.cell (i := 5) rfl); (try have f5 := hO9.frozen 5); (try have t6 := hO9.cell (i := 6) rfl); (try have f6 := hO9.frozen 6); (try have t7 := hO9.cell (i := 7) rfl); (try have f7 := hO9.frozen 7); (try have t8 := hO9.cell (i := 8) rfl); (try have f8 := hO9.frozen 8); go_simp
            refine hK.out _ _ ?_ (fun hNew => ?_)
            · (try dsimp only); first | exact hS13 | exact below_t hHeld hb1 | exact below_t hHeld (below_alloc _ _)
            clear hK K hHeld
            have hHeld := hNew
            clear hNew
            try dsimp only at hHeld
            try simp only [Act.put, List.setIfInBounds_toArray, List.set_cons_zero, List.set_cons_succ]
            refine takeH 26 (some 6) (v := ?_) rfl rfl (by kernel_rfl) (by kernel_rfl) (by kernel_rfl) (by rfl) ?_ (by exact hHeld) ?_
            rotate_left
            · intro w hSw; (try dsimp only at hSw); have e1 := fun i => hSw.cell (p := ⟨b, i, none⟩) hbl; have e2 := fun i => hSw.cell (p := ⟨g, i, none⟩) hgl; go_simp; try (with_reducible rfl)
            try simp only [Act.put, List.setIfInBounds_toArray, List.set_cons_zero, List.set_cons_succ]
            refine wpAnyH_done (by kernel_rfl) ?_ _
            refine NoPanic.normal ?_
            go_wp2_with fail
            all_goals go_meet
            exact ⟨_, _, _, rfl, rfl, rfl, HM9⟩
          exact AllReadyH.nil
        exact AllReadyH.nil
      refine stepH 24 rfl (by rfl) (fun K hK => ?_) ?_
      · go_simp
        refine hK.out _ _ ?_ (fun hNew => ?_)
        · (try dsimp only); first | exact hS13 | exact below_t hHeld hb1 | exact below_t hHeld (below_alloc _ _)
        clear hK K hHeld
        have hHeld := hNew
        clear hNew
        try dsimp only at hHeld
        try simp only [Act.put, List.setIfInBounds_toArray, List.set_cons_zero, List.set_cons_succ]
        refine wpAnyH_ready (rs := [20]) (by kernel_rfl) (by simp) ?_
        refine stepH 20 rfl (by rfl) (fun K hK => ?_) ?_
        · go_simp
          ((with_reducible refine (Join_fits x y HFit.out _ ?_ ?_).mono ?_); (exact ⟨IX.out.lo.keep hHeld, IX.out.hi.keep hHeld, IX.out.s.keep hHeld⟩); (exact ⟨IY.out.lo.keep hHeld, IY.out.hi.keep hHeld, IY.out.s.keep hHeld⟩); rintro e1 w1 ⟨⟨z1, rfl, hn1, hgl1⟩, hb1⟩)
          refine hK.out _ _ ?_ (fun hNew => ?_)
          · (try dsimp only); first | exact hS13 | exact below_t hHeld hb1 | exact below_t hHeld (below_alloc _ _)
          clear hK K hHeld
          have hHeld := hNew
          clear hNew
          try dsimp only at hHeld
          try simp only [Act.put, List.setIfInBounds_toArray, List.set_cons_zero, List.set_cons_succ]
          refine takeH 21 (some 29) (v := ?_) rfl rfl (by kernel_rfl) (by kernel_rfl) (by kernel_rfl) (by rfl) ?_ (by exact hHeld) ?_
          rotate_left
          · intro w hSw; (try dsimp only at hSw); have e1 := fun i => hSw.cell (p := ⟨b, i, none⟩) hbl; have e2 := fun i => hSw.cell (p := ⟨g, i, none⟩) hgl; go_simp; try (with_reducible rfl)
          try simp only [Act.put, List.setIfInBounds_toArray, List.set_cons_zero, List.set_cons_succ]
          refine takeH 22 (some 51) (v := ?_) rfl rfl (by kernel_rfl) (by kernel_rfl) (by kernel_rfl) (by rfl) ?_ (by exact hHeld) ?_
          rotate_left
          · intro w hSw; (try dsimp only at hSw); have e1 := fun i => hSw.cell (p := ⟨b, i, none⟩) hbl; have e2 := fun i => hSw.cell (p := ⟨g, i, none⟩) hgl; go_simp; try (with_reducible rfl)
          try simp only [Act.put, List.setIfInBounds_toArray, List.set_cons_zero, List.set_cons_succ]
          refine takeH 23 (some 52) (v := ?_) rfl rfl (by kernel_rfl) (by kernel_rfl) (by kernel_rfl) (by rfl) ?_ (by exact hHeld) ?_
          rotate_left
          · intro w hSw; (try dsimp only at hSw); have e1 := fun i => hSw.cell (p := ⟨b, i, none⟩) hbl; have e2 := fun i => hSw.cell (p := ⟨g, i, none⟩) hgl; go_simp; try (with_reducible rfl)
          try simp only [Act.put, List.setIfInBounds_toArray, List.set_cons_zero, List.set_cons_succ]
          refine wpAnyH_ready (rs := [25]) (by kernel_rfl) (by simp) ?_
          refine stepH 25 rfl (by rfl) (fun K hK => ?_) ?_
          · (first | (have hL9 := mid_L1 HS.out hb1 hn1 hgl1; obtain ⟨hO9, hM9⟩ := hL9; have hS13 := set9_below (x := z1) hHeld (Nat.le_refl _)) | (have hM9 := mid_L2 HS.out hb1 hn1 hgl1; have hS13 := below_t (below_t ((Below.refl _ wz).drew) hb1) (below_alloc w1 (.cells #[.slice z1.p z1.lo.length z1.c, .slice z1.q z1.hi.length z1.f, .int .i64 z1.k, .int .i64 z1.b, .int .i64 z1.e, .slice z1.g z1.s.length z1.d, .int .i64 z1.st, .int .i64 z1.sp, .int .i64 z1.md] 36)))); have HM9 := Lib.hid hM9; (try have t0 := hO9.cell (i := 0) rfl); (try have f0 := hO9.frozen 0); (try have t1 := hO9.cell (i := 1) rfl); (try have f1 := hO9.frozen 1); (try have t2 := hO9.cell (i := 2) rfl); (try have f2 := hO9.frozen 2); (try have t3 := hO9.cell (i := 3) rfl); (try have f3 := hO9.frozen 3); (try have t4 := hO9.cell (i := 4) rfl); (try have f4 := hO9.frozen 4); (try have t5 := hO9.cell (i := 5) rfl); (try have f5 := hO9.frozen 5); (try have t6 := hO9.cell (i := 6) rfl); (try have f6 := hO9.frozen 6); (try have t7 := hO9.cell (i := 7) rfl); (try have f7 := hO9.frozen 7); (try have t8 := hO9.cell (i := 8) rfl); (try have f8 := hO9.frozen 8); go_simp
            refine hK.out _ _ ?_ (fun hNew => ?_)
            · (try dsimp only); first | exact hS13 | exact below_t hHeld hb1 | exact below_t hHeld (below_alloc _ _)
            clear hK K hHeld
            have hHeld := hNew
            clear hNew
            try dsimp only at hHeld
            try simp only [Act.put, List.setIfInBounds_toArray, List.set_cons_zero, List.set_cons_succ]
            refine takeH 26 (some 6) (v := ?_) rfl rfl (by kernel_rfl) (by kernel_rfl) (by kernel_rfl) (by rfl) ?_ (by exact hHeld) ?_
            rotate_left
            · intro w hSw; (try dsimp only at hSw); have e1 := fun i => hSw.cell (p := ⟨b, i, none⟩) hbl; have e2 := fun i => hSw.cell (p := ⟨g, i, none⟩) hgl; go_simp; try (with_reducible rfl)
            try simp only [Act.put, List.setIfInBounds_toArray, List.set_cons_zero, List.set_cons_succ]
            refine wpAnyH_done (by kernel_rfl) ?_ _
            refine NoPanic.normal ?_
            go_wp2_with fail
            all_goals go_meet
            exact ⟨_, _, _, rfl, rfl, rfl, HM9⟩
          exact AllReadyH.nil
        exact AllReadyH.nil
      exact AllReadyH.nil
    case rest =>
      obtain ⟨g5, z, wy, rfl, rfl, rfl, HM⟩ := hcut
      clear q0 q1 x0 x1 x2 x3 x4 x5 x6 x7 x8 x9 x10 x11 x12 x13 x14 x15 x16 x17 IX IY
      have q0 := HM.out.stk.st.cell (i := 0) rfl
      have x0 := HM.out.own.cell (i := 0) rfl
      have x1 := HM.out.own.cell (i := 1) rfl
      have x2 := HM.out.own.cell (i := 2) rfl
      have x3 := HM.out.own.cell (i := 3) rfl
      have x4 := HM.out.own.cell (i := 4) rfl
      have x5 := HM.out.own.cell (i := 5) rfl
      have x6 := HM.out.own.cell (i := 6) rfl
      have x7 := HM.out.own.cell (i := 7) rfl
      have x8 := HM.out.own.cell (i := 8) rfl
      have qa : ∀ o, (wy.alloc o).cell? ⟨b, 0, none⟩ = some (.slice (some ⟨g, 0, none⟩) (1 + 1) cap) := fun o => ((below_alloc wy o).cell (p := ⟨b, 0, none⟩) HM.out.stk.st.lt).trans q0
      go_upto_region 7 with fail
      refine wp_region_noPanic ?_
      refine wp_region_held_drew (S := (fun _ => True)) (by kernel_rfl) ?_ (fun hHeld => ?_)
      · (try dsimp only); skip
      refine takeH 0 (some 55) (v := ?_) rfl rfl (by kernel_rfl) (by kernel_rfl) (by kernel_rfl) (by rfl) ?_ (by exact hHeld) ?_
      rotate_left
      · intro w hSw; (try dsimp only at hSw); go_simp; try (with_reducible rfl)
      try simp only [Act.put, List.setIfInBounds_toArray, List.set_cons_zero, List.set_cons_succ]
      refine takeH 1 (some 56) (v := ?_) rfl rfl (by kernel_rfl) (by kernel_rfl) (by kernel_rfl) (by rfl) ?_ (by exact hHeld) ?_
      rotate_left
      · intro w hSw; (try dsimp only at hSw); go_simp; try (with_reducible rfl)
      try simp only [Act.put, List.setIfInBounds_toArray, List.set_cons_zero, List.set_cons_succ]
      refine takeH 2 (some 57) (v := ?_) rfl rfl (by kernel_rfl) (by kernel_rfl) (by kernel_rfl) (by rfl) ?_ (by exact hHeld) ?_
      rotate_left
      · intro w hSw; (try dsimp only at hSw); go_simp; try (with_reducible rfl)
      try simp only [Act.put, List.setIfInBounds_toArray, List.set_cons_zero, List.set_cons_succ]
      refine takeH 3 (some 58) (v := ?_) rfl rfl (by kernel_rfl) (by kernel_rfl) (by kernel_rfl) (by rfl) ?_ (by exact hHeld) ?_
      rotate_left
      · intro w hSw; (try dsimp only at hSw); go_simp; try (with_reducible rfl)
      try simp only [Act.put, List.setIfInBounds_toArray, List.set_cons_zero, List.set_cons_succ]
      refine takeH 5 (some 60) (v := ?_) rfl rfl (by kernel_rfl) (by kernel_rfl) (by kernel_rfl) (by rfl) ?_ (by exact hHeld) ?_
      rotate_left
      · intro w hSw; (try dsimp only at hSw); go_simp; try (with_reducible rfl)
      try simp only [Act.put, List.setIfInBounds_toArray, List.set_cons_zero, List.set_cons_succ]
      refine takeH 6 (some 61) (v := ?_) rfl rfl (by kernel_rfl) (by kernel_rfl) (by kernel_rfl) (by rfl) ?_ (by exact hHeld) ?_
      rotate_left
      · intro w hSw; (try dsimp only at hSw); go_simp; try (with_reducible rfl)
      try simp only [Act.put, List.setIfInBounds_toArray, List.set_cons_zero, List.set_cons_succ]
      refine wpAnyH_ready (rs := [4, 8]) (by kernel_rfl) (by simp) ?_
      refine stepH 4 rfl (by rfl) (fun K hK => ?_) ?_
      · go_simp
        refine hK.out _ _ ?_ (fun hNew => ?_)
        · (try dsimp only); skip
        clear hK K hHeld
        have hHeld := hNew
        clear hNew
        try dsimp only at hHeld
        try simp only [Act.put, List.setIfInBounds_toArray, List.set_cons_zero, List.set_cons_succ]
        refine takeH 7 (some 62) (v := ?_) rfl rfl (by kernel_rfl) (by kernel_rfl) (by kernel_rfl) (by rfl) ?_ (by exact hHeld) ?_
        rotate_left
        · intro w hSw; (try dsimp only at hSw); go_simp; try (with_reducible rfl)
        try simp only [Act.put, List.setIfInBounds_toArray, List.set_cons_zero, List.set_cons_succ]
        refine wpAnyH_ready (rs := [8]) (by kernel_rfl) (by simp) ?_
        refine stepH 8 rfl (by rfl) (fun K hK => ?_) ?_
        · go_simp
          refine hK.out _ _ ?_ (fun hNew => ?_)
          · (try dsimp only); skip
          clear hK K hHeld
          have hHeld := hNew
          clear hNew
          try dsimp only at hHeld
          try simp only [Act.put, List.setIfInBounds_toArray, List.set_cons_zero, List.set_cons_succ]
          refine wpAnyH_ready (rs := [9]) (by kernel_rfl) (by simp) ?_
          refine stepH 9 rfl (by rfl) (fun K hK => ?_) ?_
          · go_simp
            refine hK.out _ _ ?_ (fun hNew => ?_)
            · (try dsimp only); skip
            clear hK K hHeld
            have hHeld := hNew
            clear hNew
            try dsimp only at hHeld
            try simp only [Act.put, List.setIfInBounds_toArray, List.set_cons_zero, List.set_cons_succ]
            refine wpAnyH_ready (rs := [10]) (by kernel_rfl) (by simp) ?_
            refine stepH 10 rfl (by rfl) (fun K hK => ?_) ?_
            · (refine wp_append_piece _ _ rfl B (.slice (some ⟨g, 0, none⟩) 0 cap) 0 [] rfl (row_none (HM.out.stk.keep (below_t (Below.refl _ wy).drew (below_alloc wy.drew (.cells #[.slice z.p z.lo.length z.c, .slice z.q z.hi.length z.f, .int .i64 z.k, .int .i64 z.b, .int .i64 z.e, .slice z.g z.s.length z.d, .int .i64 z.st, .int .i64 z.sp, .int .i64 z.md] 36)))).row) wy.heap.size 1 [.slice z.p z.lo.length z.c, .slice z.q z.hi.length z.f, .int .i64 z.k, .int .i64 z.b, .int .i64 z.e, .slice z.g z.s.length z.d, .int .i64 z.st, .int .i64 z.sp, .int .i64 z.md] rfl rfl (Own.made wy.drew wy.heap.size [.slice z.p z.lo.length z.c, .slice z.q z.hi.length z.f, .int .i64 z.k, .int .i64 z.b, .int .i64 z.e, .slice z.g z.s.length z.d, .int .i64 z.st, .int .i64 z.sp, .int .i64 z.md] _ rfl) vals_one (by omega) (by have := HM.out.stk.lt; simp; omega) ?_); intro v6 w6 hr6 hg6; obtain ⟨g6, cap6, rfl, -, -⟩ := row_slice hr6; have st6 := stk_st (HM.out.stk.keep (below_t (Below.refl _ wy).drew (below_alloc wy.drew (.cells #[.slice z.p z.lo.length z.c, .slice z.q z.hi.length z.f, .int .i64 z.k, .int .i64 z.b, .int .i64 z.e, .slice z.g z.s.length z.d, .int .i64 z.st, .int .i64 z.sp, .int .i64 z.md] 36)))).st (row_none (HM.out.stk.keep (below_t (Below.refl _ wy).drew (below_alloc wy.drew (.cells #[.slice z.p z.lo.length z.c, .slice z.q z.hi.length z.f, .int .i64 z.k, .int .i64 z.b, .int .i64 z.e, .slice z.g z.s.length z.d, .int .i64 z.st, .int .i64 z.sp, .int .i64 z.md] 36)))).row) hg6; have q6 := st6.cell (i := 0) rfl; have f6 := st6.frozen 0
              refine hK.out _ _ ?_ (fun hNew => ?_)
              · (try dsimp only); skip
              clear hK K hHeld
              have hHeld := hNew
              clear hNew
              try dsimp only at hHeld
              try simp only [Act.put, List.setIfInBounds_toArray, List.set_cons_zero, List.set_cons_succ]
              refine takeH 11 (some 66) (v := ?_) rfl rfl (by kernel_rfl) (by kernel_rfl) (by kernel_rfl) (by rfl) ?_ (by exact hHeld) ?_
              rotate_left
              · intro w hSw; (try dsimp only at hSw); go_simp; try (with_reducible rfl)
              try simp only [Act.put, List.setIfInBounds_toArray, List.set_cons_zero, List.set_cons_succ]
              refine takeH 12 (some 67) (v := ?_) rfl rfl (by kernel_rfl) (by kernel_rfl) (by kernel_rfl) (by rfl) ?_ (by exact hHeld) ?_
              rotate_left
              · intro w hSw; (try dsimp only at hSw); go_simp; try (with_reducible rfl)
              try simp only [Act.put, List.setIfInBounds_toArray, List.set_cons_zero, List.set_cons_succ]
              refine wpAnyH_ready (rs := [13]) (by kernel_rfl) (by simp) ?_
              refine stepH 13 rfl (by rfl) (fun K hK => ?_) ?_
              · go_simp
                refine hK.out _ _ ?_ (fun hNew => ?_)
                · (try dsimp only); skip
                clear hK K hHeld
                have hHeld := hNew
                clear hNew
                try dsimp only at hHeld
                try simp only [Act.put, List.setIfInBounds_toArray, List.set_cons_zero, List.set_cons_succ]
                refine wpAnyH_done (by kernel_rfl) ?_ _
                refine NoPanic.normal ?_
                clear q0 qa x0 x1 x2 x3 x4 x5 x6 x7 x8
                go_wp2_with fail
                rw [rounds_succ]
                go_wp2_with fail
                go_end0
                exact ⟨rfl, _, z, stk_put (HM.out.stk.keep (below_t (Below.refl _ wy).drew (below_alloc wy.drew (.cells #[.slice z.p z.lo.length z.c, .slice z.q z.hi.length z.f, .int .i64 z.k, .int .i64 z.b, .int .i64 z.e, .slice z.g z.s.length z.d, .int .i64 z.st, .int .i64 z.sp, .int .i64 z.md] 36)))).st (row_none (HM.out.stk.keep (below_t (Below.refl _ wy).drew (below_alloc wy.drew (.cells #[.slice z.p z.lo.length z.c, .slice z.q z.hi.length z.f, .int .i64 z.k, .int .i64 z.b, .int .i64 z.e, .slice z.g z.s.length z.d, .int .i64 z.st, .int .i64 z.sp, .int .i64 z.md] 36)))).row) hg6 (ys := [z]) (by simpa [flatP, PV.vals] using hr6) rfl (fun u hu => by obtain rfl := List.mem_singleton.1 hu; exact HM.out.new.keep (below_t (Below.refl _ wy).drew (below_alloc wy.drew _))) (HM.out.stk.keep (below_t (Below.refl _ wy).drew (below_alloc wy.drew (.cells #[.slice z.p z.lo.length z.c, .slice z.q z.hi.length z.f, .int .i64 z.k, .int .i64 z.b, .int .i64 z.e, .slice z.g z.s.length z.d, .int .i64 z.st, .int .i64 z.sp, .int .i64 z.md] 36)))).below HM.out.stk.le, HM.out.glue⟩
              exact AllReadyH.nil
            exact AllReadyH.nil
          exact AllReadyH.nil
        exact AllReadyH.nil
      refine stepH 8 rfl (by rfl) (fun K hK => ?_) ?_
      · go_simp
        refine hK.out _ _ ?_ (fun hNew => ?_)
        · (try dsimp only); skip
        clear hK K hHeld
        have hHeld := hNew
        clear hNew
        try dsimp only at hHeld
        try simp only [Act.put, List.setIfInBounds_toArray, List.set_cons_zero, List.set_cons_succ]
        refine wpAnyH_ready (rs := [4, 9]) (by kernel_rfl) (by simp) ?_
        refine stepH 4 rfl (by rfl) (fun K hK => ?_) ?_
        · go_simp
          refine hK.out _ _ ?_ (fun hNew => ?_)
          · (try dsimp only); skip
          clear hK K hHeld
          have hHeld := hNew
          clear hNew
          try dsimp only at hHeld
          try simp only [Act.put, List.setIfInBounds_toArray, List.set_cons_zero, List.set_cons_succ]
          refine takeH 7 (some 62) (v := ?_) rfl rfl (by kernel_rfl) (by kernel_rfl) (by kernel_rfl) (by rfl) ?_ (by exact hHeld) ?_
          rotate_left
          · intro w hSw; (try dsimp only at hSw); go_simp; try (with_reducible rfl)
          try simp only [Act.put, List.setIfInBounds_toArray, List.set_cons_zero, List.set_cons_succ]
          refine wpAnyH_ready (rs := [9]) (by kernel_rfl) (by simp) ?_
          refine stepH 9 rfl (by rfl) (fun K hK => ?_) ?_
          · go_simp
            refine hK.out _ _ ?_ (fun hNew => ?_)
            · (try dsimp only); skip
            clear hK K hHeld
            have hHeld := hNew
            clear hNew
            try dsimp only at hHeld
            try simp only [Act.put, List.setIfInBounds_toArray, List.set_cons_zero, List.set_cons_succ]
            refine wpAnyH_ready (rs := [10]) (by kernel_rfl) (by simp) ?_
            refine stepH 10 rfl (by rfl) (fun K hK => ?_) ?_
            · (refine wp_append_piece _ _ rfl B (.slice (some ⟨g, 0, none⟩) 0 cap) 0 [] rfl (row_none (HM.out.stk.keep (below_t (Below.refl _ wy).drew (below_alloc wy.drew (.cells #[.slice z.p z.lo.length z.c, .slice z.q z.hi.length z.f, .int .i64 z.k, .int .i64 z.b, .int .i64 z.e, .slice z.g z.s.length z.d, .int .i64 z.st, .int .i64 z.sp, .int .i64 z.md] 36)))).row) wy.heap.size 1 [.slice z.p z.lo.length z.c, .slice z.q z.hi.length z.f, .int .i64 z.k, .int .i64 z.b, .int .i64 z.e, .slice z.g z.s.length z.d, .int .i64 z.st, .int .i64 z.sp, .int .i64 z.md] rfl rfl (Own.made wy.drew wy.heap.size [.slice z.p z.lo.length z.c, .slice z.q z.hi.length z.f, .int .i64 z.k, .int .i64 z.b, .int .i64 z.e, .slice z.g z.s.length z.d, .int .i64 z.st, .int .i64 z.sp, .int .i64 z.md] _ rfl) vals_one (by omega) (by have := HM.out.stk.lt; simp; omega) ?_); intro v6 w6 hr6 hg6; obtain ⟨g6, cap6, rfl, -, -⟩ := row_slice hr6; have st6 := stk_st (HM.out.stk.keep (below_t (Below.refl _ wy).drew (below_alloc wy.drew (.cells #[.slice z.p z.lo.length z.c, .slice z.q z.hi.length z.f, .int .i64 z.k, .int .i64 z.b, .int .i64 z.e, .slice z.g z.s.length z.d, .int .i64 z.st, .int .i64 z.sp, .int .i64 z.md] 36)))).st (row_none (HM.out.stk.keep (below_t (Below.refl _ wy).drew (below_alloc wy.drew (.cells #[.slice z.p z.lo.length z.c, .slice z.q z.hi.length z.f, .int .i64 z.k, .int .i64 z.b, .int .i64 z.e, .slice z.g z.s.length z.d, .int .i64 z.st, .int .i64 z.sp, .int .i64 z.md] 36)))).row) hg6; have q6 := st6.cell (i := 0) rfl; have f6 := st6.frozen 0
              refine hK.out _ _ ?_ (fun hNew => ?_)
              · (try dsimp only); skip
              clear hK K hHeld
              have hHeld := hNew
              clear hNew
              try dsimp only at hHeld
              try simp only [Act.put, List.setIfInBounds_toArray, List.set_cons_zero, List.set_cons_succ]
              refine takeH 11 (some 66) (v := ?_) rfl rfl (by kernel_rfl) (by kernel_rfl) (by kernel_rfl) (by rfl) ?_ (by exact hHeld) ?_
              rotate_left
              · intro w hSw; (try dsimp only at hSw); go_simp; try (with_reducible rfl)
              try simp only [Act.put, List.setIfInBounds_toArray, List.set_cons_zero, List.set_cons_succ]
              refine takeH 12 (some 67) (v := ?_) rfl rfl (by kernel_rfl) (by kernel_rfl) (by kernel_rfl) (by rfl) ?_ (by exact hHeld) ?_
              rotate_left
              · intro w hSw; (try dsimp only at hSw); go_simp; try (with_reducible rfl)
              try simp only [Act.put, List.setIfInBounds_toArray, List.set_cons_zero, List.set_cons_succ]
              refine wpAnyH_ready (rs := [13]) (by kernel_rfl) (by simp) ?_
              refine stepH 13 rfl (by rfl) (fun K hK => ?_) ?_
              · go_simp
                refine hK.out _ _ ?_ (fun hNew => ?_)
                · (try dsimp only); skip
                clear hK K hHeld
                have hHeld := hNew
                clear hNew
                try dsimp only at hHeld
                try simp only [Act.put, List.setIfInBounds_toArray, List.set_cons_zero, List.set_cons_succ]
                refine wpAnyH_done (by kernel_rfl) ?_ _
                refine NoPanic.normal ?_
                clear q0 qa x0 x1 x2 x3 x4 x5 x6 x7 x8
                go_wp2_with fail
                rw [rounds_succ]
                go_wp2_with fail
                go_end0
                exact ⟨rfl, _, z, stk_put (HM.out.stk.keep (below_t (Below.refl _ wy).drew (below_alloc wy.drew (.cells #[.slice z.p z.lo.length z.c, .slice z.q z.hi.length z.f, .int .i64 z.k, .int .i64 z.b, .int .i64 z.e, .slice z.g z.s.length z.d, .int .i64 z.st, .int .i64 z.sp, .int .i64 z.md] 36)))).st (row_none (HM.out.stk.keep (below_t (Below.refl _ wy).drew (below_alloc wy.drew (.cells #[.slice z.p z.lo.length z.c, .slice z.q z.hi.length z.f, .int .i64 z.k, .int .i64 z.b, .int .i64 z.e, .slice z.g z.s.length z.d, .int .i64 z.st, .int .i64 z.sp, .int .i64 z.md] 36)))).row) hg6 (ys := [z]) (by simpa [flatP, PV.vals] using hr6) rfl (fun u hu => by obtain rfl := List.mem_singleton.1 hu; exact HM.out.new.keep (below_t (Below.refl _ wy).drew (below_alloc wy.drew _))) (HM.out.stk.keep (below_t (Below.refl _ wy).drew (below_alloc wy.drew (.cells #[.slice z.p z.lo.length z.c, .slice z.q z.hi.length z.f, .int .i64 z.k, .int .i64 z.b, .int .i64 z.e, .slice z.g z.s.length z.d, .int .i64 z.st, .int .i64 z.sp, .int .i64 z.md] 36)))).below HM.out.stk.le, HM.out.glue⟩
              exact AllReadyH.nil
            exact AllReadyH.nil
          exact AllReadyH.nil
        refine stepH 9 rfl (by rfl) (fun K hK => ?_) ?_
        · go_simp
          refine hK.out _ _ ?_ (fun hNew => ?_)
          · (try dsimp only); skip
          clear hK K hHeld
          have hHeld := hNew
          clear hNew
          try dsimp only at hHeld
          try simp only [Act.put, List.setIfInBounds_toArray, List.set_cons_zero, List.set_cons_succ]
          refine wpAnyH_ready (rs := [4]) (by kernel_rfl) (by simp) ?_
          refine stepH 4 rfl (by rfl) (fun K hK => ?_) ?_
          · go_simp
            refine hK.out _ _ ?_ (fun hNew => ?_)
            · (try dsimp only); skip
            clear hK K hHeld
            have hHeld := hNew
            clear hNew
            try dsimp only at hHeld
            try simp only [Act.put, List.setIfInBounds_toArray, List.set_cons_zero, List.set_cons_succ]
            refine takeH 7 (some 62) (v := ?_) rfl rfl (by kernel_rfl) (by kernel_rfl) (by kernel_rfl) (by rfl) ?_ (by exact hHeld) ?_
            rotate_left
            · intro w hSw; (try dsimp only at hSw); go_simp; try (with_reducible rfl)
            try simp only [Act.put, List.setIfInBounds_toArray, List.set_cons_zero, List.set_cons_succ]
            refine wpAnyH_ready (rs := [10]) (by kernel_rfl) (by simp) ?_
            refine stepH 10 rfl (by rfl) (fun K hK => ?_) ?_
            · (refine wp_append_piece _ _ rfl B (.slice (some ⟨g, 0, none⟩) 0 cap) 0 [] rfl (row_none (HM.out.stk.keep (below_t (Below.refl _ wy).drew (below_alloc wy.drew (.cells #[.slice z.p z.lo.length z.c, .slice z.q z.hi.length z.f, .int .i64 z.k, .int .i64 z.b, .int .i64 z.e, .slice z.g z.s.length z.d, .int .i64 z.st, .int .i64 z.sp, .int .i64 z.md] 36)))).row) wy.heap.size 1 [.slice z.p z.lo.length z.c, .slice z.q z.hi.length z.f, .int .i64 z.k, .int .i64 z.b, .int .i64 z.e, .slice z.g z.s.length z.d, .int .i64 z.st, .int .i64 z.sp, .int .i64 z.md] rfl rfl (Own.made wy.drew wy.heap.size [.slice z.p z.lo.length z.c, .slice z.q z.hi.length z.f, .int .i64 z.k, .int .i64 z.b, .int .i64 z.e, .slice z.g z.s.length z.d, .int .i64 z.st, .int .i64 z.sp, .int .i64 z.md] _ rfl) vals_one (by omega) (by have := HM.out.stk.lt; simp; omega) ?_); intro v6 w6 hr6 hg6; obtain ⟨g6, cap6, rfl, -, -⟩ := row_slice hr6; have st6 := stk_st (HM.out.stk.keep (below_t (Below.refl _ wy).drew (below_alloc wy.drew (.cells #[.slice z.p z.lo.length z.c, .slice z.q z.hi.length z.f, .int .i64 z.k, .int .i64 z.b, .int .i64 z.e, .slice z.g z.s.length z.d, .int .i64 z.st, .int .i64 z.sp, .int .i64 z.md] 36)))).st (row_none (HM.out.stk.keep (below_t (Below.refl _ wy).drew (below_alloc wy.drew (.cells #[.slice z.p z.lo.length z.c, .slice z.q z.hi.length z.f, .int .i64 z.k, .int .i64 z.b, .int .i64 z.e, .slice z.g z.s.length z.d, .int .i64 z.st, .int .i64 z.sp, .int .i64 z.md] 36)))).row) hg6; have q6 := st6.cell (i := 0) rfl; have f6 := st6.frozen 0
              refine hK.out _ _ ?_ (fun hNew => ?_)
              · (try dsimp only); skip
              clear hK K hHeld
              have hHeld := hNew
              clear hNew
              try dsimp only at hHeld
              try simp only [Act.put, List.setIfInBounds_toArray, List.set_cons_zero, List.set_cons_succ]
              refine takeH 11 (some 66) (v := ?_) rfl rfl (by kernel_rfl) (by kernel_rfl) (by kernel_rfl) (by rfl) ?_ (by exact hHeld) ?_
              rotate_left
              · intro w hSw; (try dsimp only at hSw); go_simp; try (with_reducible rfl)
              try simp only [Act.put, List.setIfInBounds_toArray, List.set_cons_zero, List.set_cons_succ]
              refine takeH 12 (some 67) (v := ?_) rfl rfl (by kernel_rfl) (by kernel_rfl) (by kernel_rfl) (by rfl) ?_ (by exact hHeld) ?_
              rotate_left
              · intro w hSw; (try dsimp only at hSw); go_simp; try (with_reducible rfl)
              try simp only [Act.put, List.setIfInBounds_toArray, List.set_cons_zero, List.set_cons_succ]
              refine wpAnyH_ready (rs := [13]) (by kernel_rfl) (by simp) ?_
              refine stepH 13 rfl (by rfl) (fun K hK => ?_) ?_
              · go_simp
                refine hK.out _ _ ?_ (fun hNew => ?_)
                · (try dsimp only); skip
                clear hK K hHeld
                have hHeld := hNew
                clear hNew
                try dsimp only at hHeld
                try simp only [Act.put, List.setIfInBounds_toArray, List.set_cons_zero, List.set_cons_succ]
                refine wpAnyH_done (by kernel_rfl) ?_ _
                refine NoPanic.normal ?_
                clear q0 qa x0 x1 x2 x3 x4 x5 x6 x7 x8
                go_wp2_with fail
                rw [rounds_succ]
                go_wp2_with fail
                go_end0
                exact ⟨rfl, _, z, stk_put (HM.out.stk.keep (below_t (Below.refl _ wy).drew (below_alloc wy.drew (.cells #[.slice z.p z.lo.length z.c, .slice z.q z.hi.length z.f, .int .i64 z.k, .int .i64 z.b, .int .i64 z.e, .slice z.g z.s.length z.d, .int .i64 z.st, .int .i64 z.sp, .int .i64 z.md] 36)))).st (row_none (HM.out.stk.keep (below_t (Below.refl _ wy).drew (below_alloc wy.drew (.cells #[.slice z.p z.lo.length z.c, .slice z.q z.hi.length z.f, .int .i64 z.k, .int .i64 z.b, .int .i64 z.e, .slice z.g z.s.length z.d, .int .i64 z.st, .int .i64 z.sp, .int .i64 z.md] 36)))).row) hg6 (ys := [z]) (by simpa [flatP, PV.vals] using hr6) rfl (fun u hu => by obtain rfl := List.mem_singleton.1 hu; exact HM.out.new.keep (below_t (Below.refl _ wy).drew (below_alloc wy.drew _))) (HM.out.stk.keep (below_t (Below.refl _ wy).drew (below_alloc wy.drew (.cells #[.slice z.p z.lo.length z.c, .slice z.q z.hi.length z.f, .int .i64 z.k, .int .i64 z.b, .int .i64 z.e, .slice z.g z.s.length z.d, .int .i64 z.st, .int .i64 z.sp, .int .i64 z.md] 36)))).below HM.out.stk.le, HM.out.glue⟩
              exact AllReadyH.nil
            exact AllReadyH.nil
          exact AllReadyH.nil
        exact AllReadyH.nil
      exact AllReadyH.nil
end Go.Proofs.Ytgbeokfpegdgdaa
