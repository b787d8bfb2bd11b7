/- One piece as a piece of the reference; lists of one piece compared. No condition beyond what each says. -/
import Derived.Test.YtgbeokfpegdgdaaMg12
namespace Go.Proofs.Ytgbeokfpegdgdaa
open Go.RowKit Go.Shelf
set_option linter.unusedVariables false
set_option linter.unusedSimpArgs false

theorem info_rpiece : (Try.prog.info? 28).map (fun i => (i.zero, i.size, i.bytes)) = some (some (.agg #[.slice none 0 0, .slice none 0 0, .int .i64 0, .int .i64 0, .int .i64 0, .slice none 0 0, .int .i64 0, .int .i64 0, .int .i64 0]), 9, 120) := by kernel_rfl
theorem append_rpiece {w : World} {ops : Array Oper} {rest : List Oper} {o : Oper} {a : Act} {Q : Exit → Act → World → Prop} (hgd : o.guard = none) (s x : Operand)
    (ho : o.op = .call { callee := .builtin .append, args := #[s, x], argTypes := #[37, 37] })
    (base : Nat) (v : Value) (n : Nat) (xs : List Value) (hs : a.eval s = v) (hown : w.ownsRow base 28 9 v n xs)
    (g c : Nat) (news : List Value) (hx : a.eval x = .slice (some ⟨g, 0, none⟩) 1 c) (hl : news.length = 9) (hnews : Own w g 28 news) (h1 : ∀ u ∈ news, u.oneCell' = true) (hbig : n + 1 ≤ 1000000) (hbase : base ≤ w.heap.size)
    (h : ∀ v' w', w'.ownsRow base 28 9 v' (n + 1) (xs ++ news) → w.grownBy w' v.ownBlock → wpList Try.prog ops Q rest (a.put o.dst v') w') : wpList Try.prog ops Q (o :: rest) a w := by
  obtain ⟨i, hi, hz, hsize, hbytes⟩ := info_parts info_rpiece
  refine wpList_append_own w hgd s x 37 ho base 28 i _ 9 120 Try.underlying37 hi hz hsize hbytes rfl (by decide) v n xs hs hown ⟨g, 0, none⟩ 1 c news hx (by omega) ?_ h1 (by unfold maxLen; omega) (by omega) hbase fun v' w' h2 h3 _ => h v' w' h2 h3
  intro j u hu
  rw [Addr.add_lit, Nat.zero_add]
  exact hnews.cell hu

def BackRet (z : PV) (w : World) (e : Ending) (w' : World) : Prop := (∃ g' cap', e = .returned (.slice (some ⟨g', 0, none⟩) 1 cap') ∧ Own w' g' 28 [.slice z.p z.lo.length z.c, .slice z.q z.hi.length z.f, .int .i64 z.k, .int .i64 z.b, .int .i64 z.e, .slice z.g z.s.length z.d, .int .i64 z.st, .int .i64 z.sp, .int .i64 z.md]) ∧ Below w.heap.size w w'
set_option maxRecDepth 100000 in
set_option maxHeartbeats 1500000 in
theorem Back_one (z : PV) (g cap : Nat) (w : World) (ho : Own w g 36 [.slice z.p z.lo.length z.c, .slice z.q z.hi.length z.f, .int .i64 z.k, .int .i64 z.b, .int .i64 z.e, .slice z.g z.s.length z.d, .int .i64 z.st, .int .i64 z.sp, .int .i64 z.md]) :
    Calls Try.prog 7 #[.slice (some ⟨g, 0, none⟩) 1 cap] w (BackRet z w) := by
  have hlt := ho.lt
  have hne : g ≠ w.heap.size := by omega
  have c0 := ho.cell (i := 0) rfl
  have c1 := ho.cell (i := 1) rfl
  have c2 := ho.cell (i := 2) rfl
  have c3 := ho.cell (i := 3) rfl
  have c4 := ho.cell (i := 4) rfl
  have c5 := ho.cell (i := 5) rfl
  have c6 := ho.cell (i := 6) rfl
  have c7 := ho.cell (i := 7) rfl
  have c8 := ho.cell (i := 8) rfl
  have hw0 : IntKind.i64.wrap 0 = 0 := by decide
  have hw1 : IntKind.i64.wrap 1 = 1 := by decide
  clear ho
  go_enter Try.func7, Try.ntmps7
  go_wp2_with fail
  refine wp_loop_rounds 2 ?_
  rw [rounds_succ]
  go_wp2_with (at_builtin; refine append_rpiece rfl _ _ rfl w.heap.size (.slice none 0 0) 0 [] rfl (World.ownsRow_nil _ _ _ _) (w.heap.size + 2) 1 [.slice z.p z.lo.length z.c, .slice z.q z.hi.length z.f, .int .i64 z.k, .int .i64 z.b, .int .i64 z.e, .slice z.g z.s.length z.d, .int .i64 z.st, .int .i64 z.sp, .int .i64 z.md] rfl rfl (Own.made _ _ [_, _, _, _, _, _, _, _, _] _ (by simp)) vals_one (by omega) (by simp; omega) ?_; intro v5 w5 hr5 hg5; obtain ⟨g5, cap5, rfl, -, -⟩ := row_slice hr5)
  have HO := Lib.hid (row_own hr5 rfl)
  have HB := Lib.hid (below_t (below_alloc w (.cells #[.slice z.p z.lo.length z.c, .slice z.q z.hi.length z.f, .int .i64 z.k, .int .i64 z.b, .int .i64 z.e, .slice z.g z.s.length z.d, .int .i64 z.st, .int .i64 z.sp, .int .i64 z.md] 28)) (below_t (below_alloc _ (.cells #[.int .i64 z.k, .int .i64 z.b, .int .i64 z.e, .slice z.g z.s.length z.d, .int .i64 z.st, .int .i64 z.sp, .int .i64 z.md] 34)) (below_t (below_alloc _ (.cells #[.slice z.p z.lo.length z.c, .slice z.q z.hi.length z.f, .int .i64 z.k, .int .i64 z.b, .int .i64 z.e, .slice z.g z.s.length z.d, .int .i64 z.st, .int .i64 z.sp, .int .i64 z.md] 28)) ((Below.refl _ _).grown hg5 (Nat.le_refl _) (fun k hk => by cases hk)))))
  clear hr5 hg5 c0 c1 c2 c3 c4 c5 c6 c7 c8
  go_wp2_with fail
  rw [rounds_succ]
  go_wp2_with fail
  go_ret
  exact ⟨⟨g5, cap5, rfl, HO.out⟩, HB.out⟩

theorem SameBox_is (x z : PV) (h1 : z.lo = x.lo) (h2 : z.hi = x.hi) (w : World) (hx : PVI w x) (hz : PVI w z) :
    Calls Try.prog 18 #[.agg #[.slice z.p z.lo.length z.c, .slice z.q z.hi.length z.f], .agg #[.slice x.p x.lo.length x.c, .slice x.q x.hi.length x.f]] w fun e w' => e = .returned (.bool true) ∧ Below w.heap.size w w' :=
  BoxSame_any z.p z.q x.p x.q z.c z.f x.c x.f z.lo z.hi x.lo x.hi true (by simp [sameX, eqS, h1, h2]) w hz.lo hz.hi hx.lo hx.hi
set_option maxRecDepth 100000 in
set_option maxHeartbeats 1500000 in
theorem Same_one (x z : PV) (h : Twin z x) (g cap g' cap' : Nat) (w : World) (ho : Own w g 28 [.slice z.p z.lo.length z.c, .slice z.q z.hi.length z.f, .int .i64 z.k, .int .i64 z.b, .int .i64 z.e, .slice z.g z.s.length z.d, .int .i64 z.st, .int .i64 z.sp, .int .i64 z.md]) (ho' : Own w g' 28 [.slice x.p x.lo.length x.c, .slice x.q x.hi.length x.f, .int .i64 x.k, .int .i64 x.b, .int .i64 x.e, .slice x.g x.s.length x.d, .int .i64 x.st, .int .i64 x.sp, .int .i64 x.md]) (hz : PVI w z) (hx : PVI w x) :
    Calls Try.prog 9 #[.slice (some ⟨g, 0, none⟩) 1 cap, .slice (some ⟨g', 0, none⟩) 1 cap'] w fun e w' => e = .returned (.bool true) ∧ Below w.heap.size w w' := by
  have hg := ho.lt
  have hg' := ho'.lt
  have c0 := ho.cell (i := 0) rfl
  have d0 := ho'.cell (i := 0) rfl
  have c1 := ho.cell (i := 1) rfl
  have d1 := ho'.cell (i := 1) rfl
  have c2 := ho.cell (i := 2) rfl
  have d2 := ho'.cell (i := 2) rfl
  have c3 := ho.cell (i := 3) rfl
  have d3 := ho'.cell (i := 3) rfl
  have c4 := ho.cell (i := 4) rfl
  have d4 := ho'.cell (i := 4) rfl
  have c5 := ho.cell (i := 5) rfl
  have d5 := ho'.cell (i := 5) rfl
  have c6 := ho.cell (i := 6) rfl
  have d6 := ho'.cell (i := 6) rfl
  have c7 := ho.cell (i := 7) rfl
  have d7 := ho'.cell (i := 7) rfl
  have c8 := ho.cell (i := 8) rfl
  have d8 := ho'.cell (i := 8) rfl
  have hw0 : IntKind.i64.wrap 0 = 0 := by decide
  have hw1 : IntKind.i64.wrap 1 = 1 := by decide
  have HZ := Lib.hid hz
  have HX := Lib.hid hx
  have H := Lib.hid h
  clear ho ho' hz hx h
  go_enter Try.func9, Try.ntmps9
  go_wp2_with fail
  refine wp_loop_rounds 2 ?_
  rw [rounds_succ]
  go_upto_region 6 with fail
  refine wp_region_noPanic ?_
  refine wp_region_held_drew (S := (fun z => Below w.heap.size w z)) (by kernel_rfl) ?_ (fun hHeld => ?_)
  · (try dsimp only); exact (Below.refl _ w).drew
  refine takeH 0 (some 17) (v := ?_) rfl rfl (by kernel_rfl) (by kernel_rfl) (by kernel_rfl) (by rfl) ?_ (by exact hHeld) ?_
  rotate_left
  · intro w hSw; (try dsimp only at hSw); have e1 := fun i => hSw.cell (p := ⟨g, i, none⟩) hg; have e2 := fun i => hSw.cell (p := ⟨g', i, none⟩) hg'; go_simp; try (with_reducible rfl)
  try simp only [Act.put, List.setIfInBounds_toArray, List.set_cons_zero, List.set_cons_succ]
  refine takeH 1 (some 18) (v := ?_) rfl rfl (by kernel_rfl) (by kernel_rfl) (by kernel_rfl) (by rfl) ?_ (by exact hHeld) ?_
  rotate_left
  · intro w hSw; (try dsimp only at hSw); have e1 := fun i => hSw.cell (p := ⟨g, i, none⟩) hg; have e2 := fun i => hSw.cell (p := ⟨g', i, none⟩) hg'; go_simp; try (with_reducible rfl)
  try simp only [Act.put, List.setIfInBounds_toArray, List.set_cons_zero, List.set_cons_succ]
  refine takeH 2 (some 19) (v := ?_) rfl rfl (by kernel_rfl) (by kernel_rfl) (by kernel_rfl) (by rfl) ?_ (by exact hHeld) ?_
  rotate_left
  · intro w hSw; (try dsimp only at hSw); have e1 := fun i => hSw.cell (p := ⟨g, i, none⟩) hg; have e2 := fun i => hSw.cell (p := ⟨g', i, none⟩) hg'; go_simp; try (with_reducible rfl)
  try simp only [Act.put, List.setIfInBounds_toArray, List.set_cons_zero, List.set_cons_succ]
  refine takeH 3 (some 20) (v := ?_) rfl rfl (by kernel_rfl) (by kernel_rfl) (by kernel_rfl) (by rfl) ?_ (by exact hHeld) ?_
  rotate_left
  · intro w hSw; (try dsimp only at hSw); have e1 := fun i => hSw.cell (p := ⟨g, i, none⟩) hg; have e2 := fun i => hSw.cell (p := ⟨g', i, none⟩) hg'; go_simp; try (with_reducible rfl)
  try simp only [Act.put, List.setIfInBounds_toArray, List.set_cons_zero, List.set_cons_succ]
  refine takeH 4 (some 21) (v := ?_) rfl rfl (by kernel_rfl) (by kernel_rfl) (by kernel_rfl) (by rfl) ?_ (by exact hHeld) ?_
  rotate_left
  · intro w hSw; (try dsimp only at hSw); have e1 := fun i => hSw.cell (p := ⟨g, i, none⟩) hg; have e2 := fun i => hSw.cell (p := ⟨g', i, none⟩) hg'; go_simp; try (with_reducible rfl)
  try simp only [Act.put, List.setIfInBounds_toArray, List.set_cons_zero, List.set_cons_succ]
  refine takeH 5 (some 22) (v := ?_) rfl rfl (by kernel_rfl) (by kernel_rfl) (by kernel_rfl) (by rfl) ?_ (by exact hHeld) ?_
  rotate_left
  · intro w hSw; (try dsimp only at hSw); have e1 := fun i => hSw.cell (p := ⟨g, i, none⟩) hg; have e2 := fun i => hSw.cell (p := ⟨g', i, none⟩) hg'; go_simp; try (with_reducible rfl)
  try simp only [Act.put, List.setIfInBounds_toArray, List.set_cons_zero, List.set_cons_succ]
  refine takeH 6 (some 23) (v := ?_) rfl rfl (by kernel_rfl) (by kernel_rfl) (by kernel_rfl) (by rfl) ?_ (by exact hHeld) ?_
  rotate_left
  · intro w hSw; (try dsimp only at hSw); have e1 := fun i => hSw.cell (p := ⟨g, i, none⟩) hg; have e2 := fun i => hSw.cell (p := ⟨g', i, none⟩) hg'; go_simp; try (with_reducible rfl)
  try simp only [Act.put, List.setIfInBounds_toArray, List.set_cons_zero, List.set_cons_succ]
  refine takeH 7 (some 24) (v := ?_) rfl rfl (by kernel_rfl) (by kernel_rfl) (by kernel_rfl) (by rfl) ?_ (by exact hHeld) ?_
  rotate_left
  · intro w hSw; (try dsimp only at hSw); have e1 := fun i => hSw.cell (p := ⟨g, i, none⟩) hg; have e2 := fun i => hSw.cell (p := ⟨g', i, none⟩) hg'; go_simp; try (with_reducible rfl)
  try simp only [Act.put, List.setIfInBounds_toArray, List.set_cons_zero, List.set_cons_succ]
  refine takeH 8 (some 25) (v := ?_) rfl rfl (by kernel_rfl) (by kernel_rfl) (by kernel_rfl) (by rfl) ?_ (by exact hHeld) ?_
  rotate_left
  · intro w hSw; (try dsimp only at hSw); have e1 := fun i => hSw.cell (p := ⟨g, i, none⟩) hg; have e2 := fun i => hSw.cell (p := ⟨g', i, none⟩) hg'; go_simp; try (with_reducible rfl)
  try simp only [Act.put, List.setIfInBounds_toArray, List.set_cons_zero, List.set_cons_succ]
  refine takeH 9 (some 26) (v := ?_) rfl rfl (by kernel_rfl) (by kernel_rfl) (by kernel_rfl) (by rfl) ?_ (by exact hHeld) ?_
  rotate_left
  · intro w hSw; (try dsimp only at hSw); have e1 := fun i => hSw.cell (p := ⟨g, i, none⟩) hg; have e2 := fun i => hSw.cell (p := ⟨g', i, none⟩) hg'; go_simp; try (with_reducible rfl)
  try simp only [Act.put, List.setIfInBounds_toArray, List.set_cons_zero, List.set_cons_succ]
  refine wpAnyH_ready (rs := [10]) (by kernel_rfl) (by simp) ?_
  refine stepH 10 rfl (by rfl) (fun K hK => ?_) ?_
  · go_simp
    ((with_reducible refine (SameBox_is x z H.out.lo.symm H.out.hi.symm _ ?_ ?_).mono ?_); (exact HX.out.keep hHeld); (exact HZ.out.keep hHeld); rintro e1 w1 ⟨rfl, hb1⟩)
    refine hK.out _ _ ?_ (fun hNew => ?_)
    · (try dsimp only); first | exact below_t hHeld hb1 | exact below_t hHeld hb2
    clear hK K hHeld
    have hHeld := hNew
    clear hNew
    try dsimp only at hHeld
    try simp only [Act.put, List.setIfInBounds_toArray, List.set_cons_zero, List.set_cons_succ]
    refine takeH 11 (some 28) (v := ?_) rfl rfl (by kernel_rfl) (by kernel_rfl) (by kernel_rfl) (by rfl) ?_ (by exact hHeld) ?_
    rotate_left
    · intro w hSw; (try dsimp only at hSw); have e1 := fun i => hSw.cell (p := ⟨g, i, none⟩) hg; have e2 := fun i => hSw.cell (p := ⟨g', i, none⟩) hg'; go_simp; try (with_reducible rfl)
    try simp only [Act.put, List.setIfInBounds_toArray, List.set_cons_zero, List.set_cons_succ]
    refine takeH 12 (some 29) (v := ?_) rfl rfl (by kernel_rfl) (by kernel_rfl) (by kernel_rfl) (by rfl) ?_ (by exact hHeld) ?_
    rotate_left
    · intro w hSw; (try dsimp only at hSw); have e1 := fun i => hSw.cell (p := ⟨g, i, none⟩) hg; have e2 := fun i => hSw.cell (p := ⟨g', i, none⟩) hg'; go_simp; try (with_reducible rfl)
    try simp only [Act.put, List.setIfInBounds_toArray, List.set_cons_zero, List.set_cons_succ]
    refine takeH 13 (some 30) (v := ?_) rfl rfl (by kernel_rfl) (by kernel_rfl) (by kernel_rfl) (by rfl) ?_ (by exact hHeld) ?_
    rotate_left
    · intro w hSw; (try dsimp only at hSw); have e1 := fun i => hSw.cell (p := ⟨g, i, none⟩) hg; have e2 := fun i => hSw.cell (p := ⟨g', i, none⟩) hg'; go_simp; try (with_reducible rfl)
    try simp only [Act.put, List.setIfInBounds_toArray, List.set_cons_zero, List.set_cons_succ]
    refine takeH 14 (some 31) (v := ?_) rfl rfl (by kernel_rfl) (by kernel_rfl) (by kernel_rfl) (by rfl) ?_ (by exact hHeld) ?_
    rotate_left
    · intro w hSw; (try dsimp only at hSw); have e1 := fun i => hSw.cell (p := ⟨g, i, none⟩) hg; have e2 := fun i => hSw.cell (p := ⟨g', i, none⟩) hg'; go_simp; try (with_reducible rfl)
    try simp only [Act.put, List.setIfInBounds_toArray, List.set_cons_zero, List.set_cons_succ]
    refine takeH 15 (some 32) (v := ?_) rfl rfl (by kernel_rfl) (by kernel_rfl) (by kernel_rfl) (by rfl) ?_ (by exact hHeld) ?_
    rotate_left
    · intro w hSw; (try dsimp only at hSw); have e1 := fun i => hSw.cell (p := ⟨g, i, none⟩) hg; have e2 := fun i => hSw.cell (p := ⟨g', i, none⟩) hg'; go_simp; try (with_reducible rfl)
    try simp only [Act.put, List.setIfInBounds_toArray, List.set_cons_zero, List.set_cons_succ]
    refine takeH 16 (some 33) (v := ?_) rfl rfl (by kernel_rfl) (by kernel_rfl) (by kernel_rfl) (by rfl) ?_ (by exact hHeld) ?_
    rotate_left
    · intro w hSw; (try dsimp only at hSw); have e1 := fun i => hSw.cell (p := ⟨g, i, none⟩) hg; have e2 := fun i => hSw.cell (p := ⟨g', i, none⟩) hg'; go_simp; try (with_reducible rfl)
    try simp only [Act.put, List.setIfInBounds_toArray, List.set_cons_zero, List.set_cons_succ]
    refine takeH 17 (some 34) (v := ?_) rfl rfl (by kernel_rfl) (by kernel_rfl) (by kernel_rfl) (by rfl) ?_ (by exact hHeld) ?_
    rotate_left
    · intro w hSw; (try dsimp only at hSw); have e1 := fun i => hSw.cell (p := ⟨g, i, none⟩) hg; have e2 := fun i => hSw.cell (p := ⟨g', i, none⟩) hg'; go_simp; try (with_reducible rfl)
    try simp only [Act.put, List.setIfInBounds_toArray, List.set_cons_zero, List.set_cons_succ]
    refine takeH 18 (some 35) (v := ?_) rfl rfl (by kernel_rfl) (by kernel_rfl) (by kernel_rfl) (by rfl) ?_ (by exact hHeld) ?_
    rotate_left
    · intro w hSw; (try dsimp only at hSw); have e1 := fun i => hSw.cell (p := ⟨g, i, none⟩) hg; have e2 := fun i => hSw.cell (p := ⟨g', i, none⟩) hg'; go_simp; try (with_reducible rfl)
    try simp only [Act.put, List.setIfInBounds_toArray, List.set_cons_zero, List.set_cons_succ]
    refine takeH 19 (some 36) (v := ?_) rfl rfl (by kernel_rfl) (by kernel_rfl) (by kernel_rfl) (by rfl) ?_ (by exact hHeld) ?_
    rotate_left
    · intro w hSw; (try dsimp only at hSw); have e1 := fun i => hSw.cell (p := ⟨g, i, none⟩) hg; have e2 := fun i => hSw.cell (p := ⟨g', i, none⟩) hg'; go_simp; try (with_reducible rfl)
    try simp only [Act.put, List.setIfInBounds_toArray, List.set_cons_zero, List.set_cons_succ]
    refine takeH 20 (some 37) (v := ?_) rfl rfl (by kernel_rfl) (by kernel_rfl) (by kernel_rfl) (by rfl) ?_ (by exact hHeld) ?_
    rotate_left
    · intro w hSw; (try dsimp only at hSw); have e1 := fun i => hSw.cell (p := ⟨g, i, none⟩) hg; have e2 := fun i => hSw.cell (p := ⟨g', i, none⟩) hg'; go_simp; try (with_reducible rfl)
    try simp only [Act.put, List.setIfInBounds_toArray, List.set_cons_zero, List.set_cons_succ]
    refine takeH 21 (some 38) (v := ?_) rfl rfl (by kernel_rfl) (by kernel_rfl) (by kernel_rfl) (by rfl) ?_ (by exact hHeld) ?_
    rotate_left
    · intro w hSw; (try dsimp only at hSw); have e1 := fun i => hSw.cell (p := ⟨g, i, none⟩) hg; have e2 := fun i => hSw.cell (p := ⟨g', i, none⟩) hg'; go_simp; try (with_reducible rfl)
    try simp only [Act.put, List.setIfInBounds_toArray, List.set_cons_zero, List.set_cons_succ]
    refine takeH 22 (some 39) (v := ?_) rfl rfl (by kernel_rfl) (by kernel_rfl) (by kernel_rfl) (by rfl) ?_ (by exact hHeld) ?_
    rotate_left
    · intro w hSw; (try dsimp only at hSw); have e1 := fun i => hSw.cell (p := ⟨g, i, none⟩) hg; have e2 := fun i => hSw.cell (p := ⟨g', i, none⟩) hg'; go_simp; try (with_reducible rfl)
    try simp only [Act.put, List.setIfInBounds_toArray, List.set_cons_zero, List.set_cons_succ]
    refine wpAnyH_ready (rs := [23]) (by kernel_rfl) (by simp) ?_
    refine stepH 23 rfl (by rfl) (fun K hK => ?_) ?_
    · go_simp
      ((with_reducible refine (racc_same z x H.out.acc _ ?_ ?_).mono ?_); (exact (HZ.out.keep hHeld).s); (exact (HX.out.keep hHeld).s); rintro e2 w2 ⟨rfl, hb2⟩)
      refine hK.out _ _ ?_ (fun hNew => ?_)
      · (try dsimp only); first | exact below_t hHeld hb1 | exact below_t hHeld hb2
      clear hK K hHeld
      have hHeld := hNew
      clear hNew
      try dsimp only at hHeld
      try simp only [Act.put, List.setIfInBounds_toArray, List.set_cons_zero, List.set_cons_succ]
      refine takeH 24 (some 41) (v := ?_) rfl rfl (by kernel_rfl) (by kernel_rfl) (by kernel_rfl) (by rfl) ?_ (by exact hHeld) ?_
      rotate_left
      · intro w hSw; (try dsimp only at hSw); have e1 := fun i => hSw.cell (p := ⟨g, i, none⟩) hg; have e2 := fun i => hSw.cell (p := ⟨g', i, none⟩) hg'; go_simp; try (with_reducible rfl)
      try simp only [Act.put, List.setIfInBounds_toArray, List.set_cons_zero, List.set_cons_succ]
      refine takeH 25 (some 42) (v := ?_) rfl rfl (by kernel_rfl) (by kernel_rfl) (by kernel_rfl) (by rfl) ?_ (by exact hHeld) ?_
      rotate_left
      · intro w hSw; (try dsimp only at hSw); have e1 := fun i => hSw.cell (p := ⟨g, i, none⟩) hg; have e2 := fun i => hSw.cell (p := ⟨g', i, none⟩) hg'; go_simp; try (with_reducible rfl)
      try simp only [Act.put, List.setIfInBounds_toArray, List.set_cons_zero, List.set_cons_succ]
      refine wpAnyH_done (by kernel_rfl) ?_ _
      refine NoPanic.normal ?_
      clear c0 d0 c1 d1 c2 d2 c3 d3 c4 d4 c5 d5 c6 d6 c7 d7 c8 d8
      go_wp2_with fail
      rw [rounds_succ]
      go_wp2_with fail
      go_ret
      exact ⟨rfl, hHeld⟩
    exact AllReadyH.nil
  exact AllReadyH.nil
end Go.Proofs.Ytgbeokfpegdgdaa
