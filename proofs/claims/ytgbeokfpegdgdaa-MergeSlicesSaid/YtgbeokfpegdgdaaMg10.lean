/- The stack of merge: what a push leaves. No condition beyond what each says. -/
import Derived.Test.YtgbeokfpegdgdaaMg9
namespace Go.Proofs.Ytgbeokfpegdgdaa
open Go.RowKit Go.Shelf
set_option linter.unusedVariables false
set_option linter.unusedSimpArgs false

theorem info_piece : (Try.prog.info? 36).map (fun i => (i.zero, i.size, i.bytes)) = some (some (.agg #[.slice none 0 0, .slice none 0 0, .int .i64 0, .int .i64 0, .int .i64 0, .slice none 0 0, .int .i64 0, .int .i64 0, .int .i64 0]), 9, 120) := by kernel_rfl
/-- 'append(pieces, piece)' -/
theorem wp_append_piece {w : World} {o : Oper} {a : Act} {K : Act → World → Prop} {Q : Exit → Act → World → Prop} (s x : Operand)
    (ho : o.op = .call { callee := .builtin .append, args := #[s, x], argTypes := #[32, 32] })
    (base : Nat) (v : Value) (n : Nat) (xs : List Value) (hs : a.eval s = v) (hown : w.ownsRow base 36 9 v n xs)
    (g c : Nat) (news : List Value) (hx : a.eval x = .slice (some ⟨g, 0, none⟩) 1 c) (hl : news.length = 9) (hnews : Own w g 36 news) (h1 : ∀ u ∈ news, u.oneCell' = true) (hbig : n + 1 ≤ 1000000) (hbase : base ≤ w.heap.size)
    (h : ∀ v' w', w'.ownsRow base 36 9 v' (n + 1) (xs ++ news) → w.grownBy w' v.ownBlock → K (a.put o.dst v') w') : o.wp Try.prog a w K Q := by
  obtain ⟨i, hi, hz, hsize, hbytes⟩ := info_parts info_piece
  refine wp_append_own w s x 32 ho base 36 i _ 9 120 Try.underlying32 hi hz hsize hbytes rfl (by decide) v n xs hs hown ⟨g, 0, none⟩ 1 c news hx (by omega) ?_ h1 (by unfold maxLen; omega) (by omega) hbase fun v' w' h2 h3 _ => h v' w' h2 h3
  intro j u hu
  rw [Addr.add_lit, Nat.zero_add]
  exact hnews.cell hu
theorem row_block' {a b : World} {B size n : Nat} {e : TypeId} {v : Value} {xs : List Value} (h : a.ownsRow B e size v n xs) (hb : ∀ j, v.ownBlock = some j → b.heap[j]? = a.heap[j]?) : b.ownsRow B e size v n xs := by
  obtain ⟨h1, h2⟩ := h
  refine ⟨h1, ?_⟩
  rcases h2 with h2 | ⟨g, cap, cur, rfl, h3, h4, h5⟩
  · exact .inl h2
  · exact .inr ⟨g, cap, cur, rfl, h3, (hb g rfl).trans h4, h5⟩
theorem row_lt {a : World} {B size n : Nat} {e : TypeId} {v : Value} {xs : List Value} (h : a.ownsRow B e size v n xs) {j : Nat} (hj : v.ownBlock = some j) : B ≤ j ∧ j < a.heap.size := by
  obtain ⟨h1, h2⟩ := h
  rcases h2 with ⟨rfl, -⟩ | ⟨g, cap, cur, rfl, h3, h4, h5⟩
  · cases hj
  · cases hj
    exact ⟨h3, (Array.getElem?_eq_some_iff.1 h4).1⟩
theorem row_keep {a b : World} {B size n : Nat} {e : TypeId} {v : Value} {xs : List Value} (h : a.ownsRow B e size v n xs) (hb : Below a.heap.size a b) : b.ownsRow B e size v n xs := row_block' h fun j hj => hb.block j (row_lt h hj).2
theorem row_own {a : World} {B size n : Nat} {e : TypeId} {v : Value} {xs : List Value} (h : a.ownsRow B e size v n xs) {g : Nat} (hg : v.ownBlock = some g) : Own a g e xs := by
  obtain ⟨h1, h2⟩ := h
  rcases h2 with ⟨rfl, -⟩ | ⟨g', cap, cur, rfl, h3, h4, -, -, -, ht⟩
  · cases hg
  · cases hg
    refine ⟨cur.toList.drop (n * size), ?_⟩
    rw [h4, ← ht, List.take_append_drop]
theorem row_ne {a : World} {B size n b : Nat} {e e' : TypeId} {v : Value} {xs us : List Value} (h : a.ownsRow B e size v n xs) (ho : Own a b e' us) (he : e' ≠ e) : some b ≠ v.ownBlock := fun hb => ho.ne (row_own h hb.symm) he rfl
theorem row_set {a : World} {B size n b i : Nat} {e e' : TypeId} {v u : Value} {xs us : List Value} (h : a.ownsRow B e size v n xs) (ho : Own a b e' us) (he : e' ≠ e) : (a.setCell ⟨b, i, none⟩ u).ownsRow B e size v n xs :=
  row_block' h fun j hj => Below.heap_setCell _ _ _ _ (by
    show j ≠ b
    rintro rfl
    exact row_ne h ho he hj.symm)
theorem row_slice {a : World} {B size n : Nat} {e : TypeId} {v : Value} {xs : List Value} (h : a.ownsRow B e size v (n + 1) xs) : ∃ g cap, v = .slice (some ⟨g, 0, none⟩) (n + 1) cap ∧ n + 1 ≤ cap ∧ cap ≤ 9223372036854775807 := by
  obtain ⟨h1, h2⟩ := h
  rcases h2 with ⟨-, h0⟩ | ⟨g, cap, cur, rfl, h3, h4, h5, h6, -⟩
  · omega
  · exact ⟨g, cap, rfl, h5, by unfold maxLen at h6; omega⟩
theorem row_none {a : World} {B n cap g size : Nat} {e : TypeId} {xs : List Value} (h : a.ownsRow B e size (.slice (some ⟨g, 0, none⟩) n cap) n xs) : a.ownsRow B e size (.slice (some ⟨g, 0, none⟩) 0 cap) 0 [] := by
  obtain ⟨h1, h2⟩ := h
  rcases h2 with ⟨h0, -⟩ | ⟨g', cap', cur, e1, h3, h4, h5, h6, h7, -⟩
  · cases h0
  · cases e1
    exact ⟨by simp, .inr ⟨g, cap, cur, rfl, h3, h4, Nat.zero_le _, h6, h7, by simp⟩⟩

def flatP (ys : List PV) : List Value := ys.flatMap PV.vals
theorem vals_one {x : PV} : ∀ u ∈ x.vals, u.oneCell' = true := by
  intro u hu
  simp only [PV.vals, List.mem_cons, List.not_mem_nil, or_false] at hu
  rcases hu with rfl | rfl | rfl | rfl | rfl | rfl | rfl | rfl | rfl <;> rfl
/-- the stack: its own block, the pieces that it holds; what lies in blocks below B is as it was -/
structure StkSt (w : World) (B b : Nat) (F v : Value) (ys : List PV) (z : World) : Prop where
  st : Own z b 50 [v, F]
  row : z.ownsRow B 36 9 v ys.length (flatP ys)
  rows : ∀ y ∈ ys, PVN B z y
  below : Below B w z
  le : B ≤ b
theorem StkSt.lt {w : World} {B b : Nat} {F v : Value} {ys : List PV} {z : World} (h : StkSt w B b F v ys z) : B ≤ z.heap.size := by have := h.st.lt; have := h.le; omega
theorem StkSt.keep {w : World} {B b : Nat} {F v : Value} {ys : List PV} {z z' : World} (h : StkSt w B b F v ys z) (hb : Below z.heap.size z z') : StkSt w B b F v ys z' :=
  ⟨h.st.keep hb h.st.lt, row_keep h.row hb, fun y hy => (h.rows y hy).keep hb, h.below.trans (hb.mono h.lt), h.le⟩
theorem stk_put {w W w5 : World} {B b n m : Nat} {F v u v' : Value} {xs : List Value} {ys : List PV} (st : Own W b 50 [v, F]) (row : W.ownsRow B 36 9 u n xs) (hg : W.grownBy w5 u.ownBlock) (hr : w5.ownsRow B 36 9 v' m (flatP ys)) (hm : m = ys.length)
    (hp : ∀ y ∈ ys, PVN B W y) (hb : Below B w W) (le : B ≤ b) : StkSt w B b F v' ys (w5.setCell ⟨b, 0, none⟩ v') := by
  subst hm
  have o5 := st.grown hg (row_ne row st (by decide))
  refine ⟨o5.set (i := 0) (by simp) v', row_set hr o5 (by decide), fun y hy => ((hp y hy).grownE row (by decide) hg).otherT o5 (by decide) _, below_set (hb.grown hg (by have := st.lt; omega) fun k hk => (row_lt row hk).1) le 0 _, le⟩
theorem stk_st {W w5 : World} {B b n : Nat} {F v u : Value} {xs : List Value} (st : Own W b 50 [v, F]) (row : W.ownsRow B 36 9 u n xs) (hg : W.grownBy w5 u.ownBlock) : Own w5 b 50 [v, F] := st.grown hg (row_ne row st (by decide))

set_option maxRecDepth 100000 in
set_option maxHeartbeats 1000000 in
theorem push_first (w0 : World) (B b : Nat) (F : Value) (x : PV) (w : World) (h : StkSt w0 B b F (.slice none 0 0) [] w) (hx : PVN B w x) :
    Calls Try.prog 16 #[.pointer (some ⟨b, 0, none⟩), .agg #[.slice x.p x.lo.length x.c, .slice x.q x.hi.length x.f, .int .i64 x.k, .int .i64 x.b, .int .i64 x.e, .slice x.g x.s.length x.d, .int .i64 x.st, .int .i64 x.sp, .int .i64 x.md]] w fun e w' => e = .returned (.tuple #[]) ∧ ∃ v, StkSt w0 B b F v [x] w' := by
  obtain ⟨W, hW, hg, hbW, OX⟩ : ∃ W, w.alloc (.cells #[.slice x.p x.lo.length x.c, .slice x.q x.hi.length x.f, .int .i64 x.k, .int .i64 x.b, .int .i64 x.e, .slice x.g x.s.length x.d, .int .i64 x.st, .int .i64 x.sp, .int .i64 x.md] 36) = W ∧ W.heap.size = w.heap.size + 1 ∧ Below w.heap.size w W ∧ Own W w.heap.size 36 [.slice x.p x.lo.length x.c, .slice x.q x.hi.length x.f, .int .i64 x.k, .int .i64 x.b, .int .i64 x.e, .slice x.g x.s.length x.d, .int .i64 x.st, .int .i64 x.sp, .int .i64 x.md] := ⟨_, rfl, by simp, below_alloc _ _, Own.made w w.heap.size [.slice x.p x.lo.length x.c, .slice x.q x.hi.length x.f, .int .i64 x.k, .int .i64 x.b, .int .i64 x.e, .slice x.g x.s.length x.d, .int .i64 x.st, .int .i64 x.sp, .int .i64 x.md] _ rfl⟩
  have HW := Lib.hid hW
  have h := h.keep hbW
  have hx := hx.keep hbW
  clear hW hg hbW
  have q0 := h.st.cell (i := 0) rfl
  have x0 := OX.cell (i := 0) rfl
  have x1 := OX.cell (i := 1) rfl
  have x2 := OX.cell (i := 2) rfl
  have x3 := OX.cell (i := 3) rfl
  have x4 := OX.cell (i := 4) rfl
  have x5 := OX.cell (i := 5) rfl
  have x6 := OX.cell (i := 6) rfl
  have x7 := OX.cell (i := 7) rfl
  have x8 := OX.cell (i := 8) rfl
  have qa : ∀ o, (W.alloc o).cell? ⟨b, 0, none⟩ = some (.slice none 0 0) := fun o => ((below_alloc W o).cell (p := ⟨b, 0, none⟩) h.st.lt).trans q0
  have H := Lib.hid h
  have HX := Lib.hid hx
  have HO := Lib.hid OX
  clear h hx OX
  go_enter Try.func16, Try.ntmps16
  go_wp2_with fail
  rw [HW.out]
  clear HW
  go_upto_region 1 with fail
  go_cut [] (fun wx => ∃ wz v, wz = wx ∧ Hid (StkSt w0 B b F v [x] wz))
  case first =>
    refine wp_region_noPanic ?_
    refine wp_region_held_drew (S := (fun _ => True)) (by kernel_rfl) ?_ (fun hHeld => ?_)
    · (try dsimp only); skip
    refine takeH 0 (some 7) (v := ?_) rfl rfl (by kernel_rfl) (by kernel_rfl) (by kernel_rfl) (by rfl) ?_ (by exact hHeld) ?_
    rotate_left
    · intro w hSw; (try dsimp only at hSw); go_simp; try (with_reducible rfl)
    try simp only [Act.put, List.setIfInBounds_toArray, List.set_cons_zero, List.set_cons_succ]
    refine takeH 1 (some 8) (v := ?_) rfl rfl (by kernel_rfl) (by kernel_rfl) (by kernel_rfl) (by rfl) ?_ (by exact hHeld) ?_
    rotate_left
    · intro w hSw; (try dsimp only at hSw); go_simp; try (with_reducible rfl)
    try simp only [Act.put, List.setIfInBounds_toArray, List.set_cons_zero, List.set_cons_succ]
    refine takeH 2 (some 9) (v := ?_) rfl rfl (by kernel_rfl) (by kernel_rfl) (by kernel_rfl) (by rfl) ?_ (by exact hHeld) ?_
    rotate_left
    · intro w hSw; (try dsimp only at hSw); go_simp; try (with_reducible rfl)
    try simp only [Act.put, List.setIfInBounds_toArray, List.set_cons_zero, List.set_cons_succ]
    refine takeH 3 (some 10) (v := ?_) rfl rfl (by kernel_rfl) (by kernel_rfl) (by kernel_rfl) (by rfl) ?_ (by exact hHeld) ?_
    rotate_left
    · intro w hSw; (try dsimp only at hSw); go_simp; try (with_reducible rfl)
    try simp only [Act.put, List.setIfInBounds_toArray, List.set_cons_zero, List.set_cons_succ]
    refine wpAnyH_ready (rs := [4, 5]) (by kernel_rfl) (by simp) ?_
    refine stepH 4 rfl (by rfl) (fun K hK => ?_) ?_
    · go_simp
      refine hK.out _ _ ?_ (fun hNew => ?_)
      · (try dsimp only); skip
      clear hK K hHeld
      have hHeld := hNew
      clear hNew
      try dsimp only at hHeld
      try simp only [Act.put, List.setIfInBounds_toArray, List.set_cons_zero, List.set_cons_succ]
      refine wpAnyH_ready (rs := [5]) (by kernel_rfl) (by simp) ?_
      refine stepH 5 rfl (by rfl) (fun K hK => ?_) ?_
      · go_simp
        refine hK.out _ _ ?_ (fun hNew => ?_)
        · (try dsimp only); skip
        clear hK K hHeld
        have hHeld := hNew
        clear hNew
        try dsimp only at hHeld
        try simp only [Act.put, List.setIfInBounds_toArray, List.set_cons_zero, List.set_cons_succ]
        refine wpAnyH_ready (rs := [6]) (by kernel_rfl) (by simp) ?_
        refine stepH 6 rfl (by rfl) (fun K hK => ?_) ?_
        · go_simp
          refine hK.out _ _ ?_ (fun hNew => ?_)
          · (try dsimp only); skip
          clear hK K hHeld
          have hHeld := hNew
          clear hNew
          try dsimp only at hHeld
          try simp only [Act.put, List.setIfInBounds_toArray, List.set_cons_zero, List.set_cons_succ]
          refine wpAnyH_ready (rs := [7]) (by kernel_rfl) (by simp) ?_
          refine stepH 7 rfl (by rfl) (fun K hK => ?_) ?_
          · (refine wp_append_piece _ _ rfl B (.slice none 0 0) 0 [] rfl (World.ownsRow_nil _ _ _ _) W.heap.size 1 [.slice x.p x.lo.length x.c, .slice x.q x.hi.length x.f, .int .i64 x.k, .int .i64 x.b, .int .i64 x.e, .slice x.g x.s.length x.d, .int .i64 x.st, .int .i64 x.sp, .int .i64 x.md] rfl rfl (Own.made W.drew W.heap.size [.slice x.p x.lo.length x.c, .slice x.q x.hi.length x.f, .int .i64 x.k, .int .i64 x.b, .int .i64 x.e, .slice x.g x.s.length x.d, .int .i64 x.st, .int .i64 x.sp, .int .i64 x.md] _ rfl) vals_one (by omega) (by have := H.out.lt; simp; omega) ?_); intro v5 w5 hr5 hg5; obtain ⟨g5, cap5, rfl, -, -⟩ := row_slice hr5; have st5 := stk_st ((H.out.keep (below_t (Below.refl _ W).drew (below_alloc W.drew (.cells #[.slice x.p x.lo.length x.c, .slice x.q x.hi.length x.f, .int .i64 x.k, .int .i64 x.b, .int .i64 x.e, .slice x.g x.s.length x.d, .int .i64 x.st, .int .i64 x.sp, .int .i64 x.md] 36)))).st) (World.ownsRow_nil _ B 36 9) hg5; have q5 := st5.cell (i := 0) rfl; have f5 := st5.frozen 0
            refine hK.out _ _ ?_ (fun hNew => ?_)
            · (try dsimp only); skip
            clear hK K hHeld
            have hHeld := hNew
            clear hNew
            try dsimp only at hHeld
            try simp only [Act.put, List.setIfInBounds_toArray, List.set_cons_zero, List.set_cons_succ]
            refine takeH 8 (some 15) (v := ?_) rfl rfl (by kernel_rfl) (by kernel_rfl) (by kernel_rfl) (by rfl) ?_ (by exact hHeld) ?_
            rotate_left
            · intro w hSw; (try dsimp only at hSw); go_simp; try (with_reducible rfl)
            try simp only [Act.put, List.setIfInBounds_toArray, List.set_cons_zero, List.set_cons_succ]
            refine takeH 9 (some 16) (v := ?_) rfl rfl (by kernel_rfl) (by kernel_rfl) (by kernel_rfl) (by rfl) ?_ (by exact hHeld) ?_
            rotate_left
            · intro w hSw; (try dsimp only at hSw); go_simp; try (with_reducible rfl)
            try simp only [Act.put, List.setIfInBounds_toArray, List.set_cons_zero, List.set_cons_succ]
            refine wpAnyH_ready (rs := [10]) (by kernel_rfl) (by simp) ?_
            refine stepH 10 rfl (by rfl) (fun K hK => ?_) ?_
            · go_simp
              refine hK.out _ _ ?_ (fun hNew => ?_)
              · (try dsimp only); skip
              clear hK K hHeld
              have hHeld := hNew
              clear hNew
              try dsimp only at hHeld
              try simp only [Act.put, List.setIfInBounds_toArray, List.set_cons_zero, List.set_cons_succ]
              refine wpAnyH_done (by kernel_rfl) ?_ _
              refine NoPanic.normal ?_
              go_wp2_with fail
              all_goals go_meet
              exact ⟨_, _, rfl, stk_put ((H.out.keep (below_t (Below.refl _ W).drew (below_alloc W.drew (.cells #[.slice x.p x.lo.length x.c, .slice x.q x.hi.length x.f, .int .i64 x.k, .int .i64 x.b, .int .i64 x.e, .slice x.g x.s.length x.d, .int .i64 x.st, .int .i64 x.sp, .int .i64 x.md] 36)))).st) (World.ownsRow_nil _ B 36 9) hg5 (ys := [x]) (by simpa [flatP, PV.vals] using hr5) rfl (fun y hy => by obtain rfl := List.mem_singleton.1 hy; exact HX.out.keep (below_t (Below.refl _ W).drew (below_alloc W.drew _))) (H.out.keep (below_t (Below.refl _ W).drew (below_alloc W.drew _))).below H.out.le⟩
            exact AllReadyH.nil
          exact AllReadyH.nil
        exact AllReadyH.nil
      exact AllReadyH.nil
    refine stepH 5 rfl (by rfl) (fun K hK => ?_) ?_
    · go_simp
      refine hK.out _ _ ?_ (fun hNew => ?_)
      · (try dsimp only); skip
      clear hK K hHeld
      have hHeld := hNew
      clear hNew
      try dsimp only at hHeld
      try simp only [Act.put, List.setIfInBounds_toArray, List.set_cons_zero, List.set_cons_succ]
      refine wpAnyH_ready (rs := [4, 6]) (by kernel_rfl) (by simp) ?_
      refine stepH 4 rfl (by rfl) (fun K hK => ?_) ?_
      · go_simp
        refine hK.out _ _ ?_ (fun hNew => ?_)
        · (try dsimp only); skip
        clear hK K hHeld
        have hHeld := hNew
        clear hNew
        try dsimp only at hHeld
        try simp only [Act.put, List.setIfInBounds_toArray, List.set_cons_zero, List.set_cons_succ]
        refine wpAnyH_ready (rs := [6]) (by kernel_rfl) (by simp) ?_
        refine stepH 6 rfl (by rfl) (fun K hK => ?_) ?_
        · go_simp
          refine hK.out _ _ ?_ (fun hNew => ?_)
          · (try dsimp only); skip
          clear hK K hHeld
          have hHeld := hNew
          clear hNew
          try dsimp only at hHeld
          try simp only [Act.put, List.setIfInBounds_toArray, List.set_cons_zero, List.set_cons_succ]
          refine wpAnyH_ready (rs := [7]) (by kernel_rfl) (by simp) ?_
          refine stepH 7 rfl (by rfl) (fun K hK => ?_) ?_
          · (refine wp_append_piece _ _ rfl B (.slice none 0 0) 0 [] rfl (World.ownsRow_nil _ _ _ _) W.heap.size 1 [.slice x.p x.lo.length x.c, .slice x.q x.hi.length x.f, .int .i64 x.k, .int .i64 x.b, .int .i64 x.e, .slice x.g x.s.length x.d, .int .i64 x.st, .int .i64 x.sp, .int .i64 x.md] rfl rfl (Own.made W.drew W.heap.size [.slice x.p x.lo.length x.c, .slice x.q x.hi.length x.f, .int .i64 x.k, .int .i64 x.b, .int .i64 x.e, .slice x.g x.s.length x.d, .int .i64 x.st, .int .i64 x.sp, .int .i64 x.md] _ rfl) vals_one (by omega) (by have := H.out.lt; simp; omega) ?_); intro v5 w5 hr5 hg5; obtain ⟨g5, cap5, rfl, -, -⟩ := row_slice hr5; have st5 := stk_st ((H.out.keep (below_t (Below.refl _ W).drew (below_alloc W.drew (.cells #[.slice x.p x.lo.length x.c, .slice x.q x.hi.length x.f, .int .i64 x.k, .int .i64 x.b, .int .i64 x.e, .slice x.g x.s.length x.d, .int .i64 x.st, .int .i64 x.sp, .int .i64 x.md] 36)))).st) (World.ownsRow_nil _ B 36 9) hg5; have q5 := st5.cell (i := 0) rfl; have f5 := st5.frozen 0
            refine hK.out _ _ ?_ (fun hNew => ?_)
            · (try dsimp only); skip
            clear hK K hHeld
            have hHeld := hNew
            clear hNew
            try dsimp only at hHeld
            try simp only [Act.put, List.setIfInBounds_toArray, List.set_cons_zero, List.set_cons_succ]
            refine takeH 8 (some 15) (v := ?_) rfl rfl (by kernel_rfl) (by kernel_rfl) (by kernel_rfl) (by rfl) ?_ (by exact hHeld) ?_
            rotate_left
            · intro w hSw; (try dsimp only at hSw); go_simp; try (with_reducible rfl)
            try simp only [Act.put, List.setIfInBounds_toArray, List.set_cons_zero, List.set_cons_succ]
            refine takeH 9 (some 16) (v := ?_) rfl rfl (by kernel_rfl) (by kernel_rfl) (by kernel_rfl) (by rfl) ?_ (by exact hHeld) ?_
            rotate_left
            · intro w hSw; (try dsimp only at hSw); go_simp; try (with_reducible rfl)
            try simp only [Act.put, List.setIfInBounds_toArray, List.set_cons_zero, List.set_cons_succ]
            refine wpAnyH_ready (rs := [10]) (by kernel_rfl) (by simp) ?_
            refine stepH 10 rfl (by rfl) (fun K hK => ?_) ?_
            · go_simp
              refine hK.out _ _ ?_ (fun hNew => ?_)
              · (try dsimp only); skip
              clear hK K hHeld
              have hHeld := hNew
              clear hNew
              try dsimp only at hHeld
              try simp only [Act.put, List.setIfInBounds_toArray, List.set_cons_zero, List.set_cons_succ]
              refine wpAnyH_done (by kernel_rfl) ?_ _
              refine NoPanic.normal ?_
              go_wp2_with fail
              all_goals go_meet
              exact ⟨_, _, rfl, stk_put ((H.out.keep (below_t (Below.refl _ W).drew (below_alloc W.drew (.cells #[.slice x.p x.lo.length x.c, .slice x.q x.hi.length x.f, .int .i64 x.k, .int .i64 x.b, .int .i64 x.e, .slice x.g x.s.length x.d, .int .i64 x.st, .int .i64 x.sp, .int .i64 x.md] 36)))).st) (World.ownsRow_nil _ B 36 9) hg5 (ys := [x]) (by simpa [flatP, PV.vals] using hr5) rfl (fun y hy => by obtain rfl := List.mem_singleton.1 hy; exact HX.out.keep (below_t (Below.refl _ W).drew (below_alloc W.drew _))) (H.out.keep (below_t (Below.refl _ W).drew (below_alloc W.drew _))).below H.out.le⟩
            exact AllReadyH.nil
          exact AllReadyH.nil
        exact AllReadyH.nil
      refine stepH 6 rfl (by rfl) (fun K hK => ?_) ?_
      · go_simp
        refine hK.out _ _ ?_ (fun hNew => ?_)
        · (try dsimp only); skip
        clear hK K hHeld
        have hHeld := hNew
        clear hNew
        try dsimp only at hHeld
        try simp only [Act.put, List.setIfInBounds_toArray, List.set_cons_zero, List.set_cons_succ]
        refine wpAnyH_ready (rs := [4]) (by kernel_rfl) (by simp) ?_
        refine stepH 4 rfl (by rfl) (fun K hK => ?_) ?_
        · go_simp
          refine hK.out _ _ ?_ (fun hNew => ?_)
          · (try dsimp only); skip
          clear hK K hHeld
          have hHeld := hNew
          clear hNew
          try dsimp only at hHeld
          try simp only [Act.put, List.setIfInBounds_toArray, List.set_cons_zero, List.set_cons_succ]
          refine wpAnyH_ready (rs := [7]) (by kernel_rfl) (by simp) ?_
          refine stepH 7 rfl (by rfl) (fun K hK => ?_) ?_
          · (refine wp_append_piece _ _ rfl B (.slice none 0 0) 0 [] rfl (World.ownsRow_nil _ _ _ _) W.heap.size 1 [.slice x.p x.lo.length x.c, .slice x.q x.hi.length x.f, .int .i64 x.k, .int .i64 x.b, .int .i64 x.e, .slice x.g x.s.length x.d, .int .i64 x.st, .int .i64 x.sp, .int .i64 x.md] rfl rfl (Own.made W.drew W.heap.size [.slice x.p x.lo.length x.c, .slice x.q x.hi.length x.f, .int .i64 x.k, .int .i64 x.b, .int .i64 x.e, .slice x.g x.s.length x.d, .int .i64 x.st, .int .i64 x.sp, .int .i64 x.md] _ rfl) vals_one (by omega) (by have := H.out.lt; simp; omega) ?_); intro v5 w5 hr5 hg5; obtain ⟨g5, cap5, rfl, -, -⟩ := row_slice hr5; have st5 := stk_st ((H.out.keep (below_t (Below.refl _ W).drew (below_alloc W.drew (.cells #[.slice x.p x.lo.length x.c, .slice x.q x.hi.length x.f, .int .i64 x.k, .int .i64 x.b, .int .i64 x.e, .slice x.g x.s.length x.d, .int .i64 x.st, .int .i64 x.sp, .int .i64 x.md] 36)))).st) (World.ownsRow_nil _ B 36 9) hg5; have q5 := st5.cell (i := 0) rfl; have f5 := st5.frozen 0
            refine hK.out _ _ ?_ (fun hNew => ?_)
            · (try dsimp only); skip
            clear hK K hHeld
            have hHeld := hNew
            clear hNew
            try dsimp only at hHeld
            try simp only [Act.put, List.setIfInBounds_toArray, List.set_cons_zero, List.set_cons_succ]
            refine takeH 8 (some 15) (v := ?_) rfl rfl (by kernel_rfl) (by kernel_rfl) (by kernel_rfl) (by rfl) ?_ (by exact hHeld) ?_
            rotate_left
            · intro w hSw; (try dsimp only at hSw); go_simp; try (with_reducible rfl)
            try simp only [Act.put, List.setIfInBounds_toArray, List.set_cons_zero, List.set_cons_succ]
            refine takeH 9 (some 16) (v := ?_) rfl rfl (by kernel_rfl) (by kernel_rfl) (by kernel_rfl) (by rfl) ?_ (by exact hHeld) ?_
            rotate_left
            · intro w hSw; (try dsimp only at hSw); go_simp; try (with_reducible rfl)
            try simp only [Act.put, List.setIfInBounds_toArray, List.set_cons_zero, List.set_cons_succ]
            refine wpAnyH_ready (rs := [10]) (by kernel_rfl) (by simp) ?_
            refine stepH 10 rfl (by rfl) (fun K hK => ?_) ?_
            · go_simp
              refine hK.out _ _ ?_ (fun hNew => ?_)
              · (try dsimp only); skip
              clear hK K hHeld
              have hHeld := hNew
              clear hNew
              try dsimp only at hHeld
              try simp only [Act.put, List.setIfInBounds_toArray, List.set_cons_zero, List.set_cons_succ]
              refine wpAnyH_done (by kernel_rfl) ?_ _
              refine NoPanic.normal ?_
              go_wp2_with fail
              all_goals go_meet
              exact ⟨_, _, rfl, stk_put ((H.out.keep (below_t (Below.refl _ W).drew (below_alloc W.drew (.cells #[.slice x.p x.lo.length x.c, .slice x.q x.hi.length x.f, .int .i64 x.k, .int .i64 x.b, .int .i64 x.e, .slice x.g x.s.length x.d, .int .i64 x.st, .int .i64 x.sp, .int .i64 x.md] 36)))).st) (World.ownsRow_nil _ B 36 9) hg5 (ys := [x]) (by simpa [flatP, PV.vals] using hr5) rfl (fun y hy => by obtain rfl := List.mem_singleton.1 hy; exact HX.out.keep (below_t (Below.refl _ W).drew (below_alloc W.drew _))) (H.out.keep (below_t (Below.refl _ W).drew (below_alloc W.drew _))).below H.out.le⟩
            exact AllReadyH.nil
          exact AllReadyH.nil
        exact AllReadyH.nil
      exact AllReadyH.nil
    exact AllReadyH.nil
  case rest =>
    obtain ⟨wz, v, rfl, HS⟩ := hcut
    clear q0 qa x0 x1 x2 x3 x4 x5 x6 x7 x8
    obtain ⟨g, cap, rfl, hcap, -⟩ := row_slice HS.out.row
    have q0 := HS.out.st.cell (i := 0) rfl
    go_wp2_with fail
    refine wp_loop_rounds 1 ?_
    rw [rounds_succ]
    go_wp2_with fail
    go_end0
    exact ⟨rfl, _, HS.out⟩
end Go.Proofs.Ytgbeokfpegdgdaa
