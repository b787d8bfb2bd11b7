/- The calls that the fixed results of layer 6 (box) make. No condition beyond what each says. -/
import Derived.Test.YthkfjdhakbjllaaBox25
import Derived.Deep.DeepAppendRoom
namespace Go.Proofs.Ythkfjdhakbjllaa
open Go.RowKit Go.Shelf
set_option linter.unusedVariables false
set_option linter.unusedSimpArgs false

/-- 'append(boxes, box)': the boxes themselves stay as they are -/
theorem run_append_box (w : World) (base g n cap : Nat) (xs : List Value) (hown : w.ownsRow base 67 2 (.slice (some ⟨g, 0, none⟩) n cap) n xs) (ty : TypeId) (b c : Nat) (news : List Value) (hl : news.length = 2) (hnews : ∀ j u, news[j]? = some u → w.cell? ⟨b, j, none⟩ = some u) (h1 : ∀ u ∈ news, u.oneCell' = true) (hbig : n + 1 ≤ 1000000) (hbase : base ≤ w.heap.size) :
    ∃ v' w', (Builtin.append_ #[81, 81] ty #[.slice (some ⟨g, 0, none⟩) n cap, .slice (some ⟨b, 0, none⟩) 1 c]).run Try.prog w = .ok v' w' ∧ w'.ownsRow base 67 2 v' (n + 1) (xs ++ news) ∧ w'.ownsRow base 67 2 (.slice (some ⟨g, 0, none⟩) n cap) n xs ∧ w.grownBy w' (some g) := by
  obtain ⟨i, hi, hz, hsize, hbytes⟩ := info_parts info_box
  have hn' : ∀ j u, news[j]? = some u → w.cell? ((⟨b, 0, none⟩ : Addr).add j) = some u := fun j u hu => by
    rw [Addr.add_lit, Nat.zero_add]
    exact hnews j u hu
  by_cases hroom : n + 1 ≤ cap
  · obtain ⟨w', hr, ho, hg⟩ := run_append_own_spare (P := Try.prog) w base 81 ty 67 i 2 Try.underlying81 hi hsize g n cap xs hown ⟨b, 0, none⟩ 1 c news (by omega) hn' h1 hroom
    refine ⟨_, w', hr, ho, ?_, hg⟩
    obtain ⟨l1, l2⟩ := ho
    rcases l2 with ⟨e, -⟩ | ⟨g', cap', cur, e, k1, k2, k3, k4, k5, k6⟩
    · cases e
    · cases e
      have hx : xs.length = n * 2 := hown.1
      refine ⟨hx, .inr ⟨g, cap, cur, rfl, k1, k2, by omega, k4, k5, ?_⟩⟩
      have := congrArg (List.take (n * 2)) k6
      rw [List.take_take, List.take_append_of_le_length (by omega), List.take_of_length_le (by omega : xs.length ≤ n * 2)] at this
      rwa [show min (n * 2) ((n + 1) * 2) = n * 2 by omega] at this
  · have holds : ∀ j u, xs[j]? = some u → w.cell? ((⟨g, 0, none⟩ : Addr).add j) = some u := hown.cells (g := g) rfl
    have hxl : xs.length = n * i.size := by rw [hsize]; exact hown.1
    have hr := run_append_grow (P := Try.prog) w 81 ty 67 i _ Try.underlying81 hi hz ⟨g, 0, none⟩ n cap xs hxl holds ⟨b, 0, none⟩ 1 c news (by rw [hsize]; omega) hn' (by omega) (by omega) (growslice_fits (by omega) (by rw [hbytes]; omega))
    obtain ⟨v', w', hr2, ho, hg, -⟩ := run_append_own (P := Try.prog) w base 81 ty 67 i _ 2 48 Try.underlying81 hi hz hsize hbytes rfl (by decide) _ n xs hown ⟨b, 0, none⟩ 1 c news (by omega) hn' h1 (by unfold maxLen; omega) (by omega) hbase
    rw [hr] at hr2
    cases hr2
    refine ⟨_, _, hr, ho, ?_, hg⟩
    have hb : Below w.heap.size w (w.drew.alloc (.cells (xs.toArray ++ news.toArray ++ Builtin.zeroCells (Value.agg #[.slice none 0 0, .slice none 0 0]).cells (grownCap w (n + 1) cap 67 - (n + 1))) 67)) := ((Below.refl _ w).drew).alloc (Nat.le_refl _) _
    exact row_block' hown fun j hj => hb.block j (row_lt hown hj).2
theorem wpList_append_box {w : World} {ops : Array Oper} {rest : List Oper} {o : Oper} {a : Act} {Q : Exit → Act → World → Prop} (hgd : o.guard = none) (s x : Operand)
    (ho : o.op = .call { callee := .builtin .append, args := #[s, x], argTypes := #[81, 81] })
    (base g n cap : Nat) (xs : List Value) (hs : a.eval s = .slice (some ⟨g, 0, none⟩) n cap) (hown : w.ownsRow base 67 2 (.slice (some ⟨g, 0, none⟩) n cap) n xs) (b c : Nat) (news : List Value) (hx : a.eval x = .slice (some ⟨b, 0, none⟩) 1 c) (hl : news.length = 2) (hnews : ∀ j u, news[j]? = some u → w.cell? ⟨b, j, none⟩ = some u) (h1 : ∀ u ∈ news, u.oneCell' = true) (hbig : n + 1 ≤ 1000000) (hbase : base ≤ w.heap.size)
    (h : ∀ v' w', w'.ownsRow base 67 2 v' (n + 1) (xs ++ news) → w'.ownsRow base 67 2 (.slice (some ⟨g, 0, none⟩) n cap) n xs → w.grownBy w' (some g) → wpList Try.prog ops Q rest (a.put o.dst v') w') : wpList Try.prog ops Q (o :: rest) a w := by
  obtain ⟨v', w', hr, h2, h3, h4⟩ := run_append_box w base g n cap xs hown o.type b c news hl hnews h1 hbig hbase
  refine wpList_plain hgd fun K hK => ?_
  unfold Oper.wp execOp
  simp only [ho, resolve, invoke, builtin, Sem.run_bind, Sem.run_pure, Result.andThen_ok, List.map_toArray, List.map_cons, List.map_nil, hs, hx, hr]
  exact hK _ _ (h v' w' h2 h3 h4)
theorem wpList_unguard {P : Program} {ops : Array Oper} {Q : Exit → Act → World → Prop} {a : Act} {w : World} {rest : List Oper} {o : Oper} (hw : Region.wanted o (yielded ops a.tmps) = true) (h : wpList P ops Q ({ o with guard := none } :: rest) a w) : wpList P ops Q (o :: rest) a w := by
  have h1 : Region.wanted { o with guard := none } (yielded ops a.tmps) = true := rfl
  simp only [wpList, hw, h1, if_true] at h ⊢
  exact h

theorem NL.dec {xs : List Int} (h : xs.all (fun x => decide (-1000 ≤ x ∧ x ≤ 1000)) = true) : NL xs := fun x hx => by
  have := List.all_eq_true.1 h x hx
  simpa using this
theorem boxHas_is (p q r : Option Addr) (c f d : Nat) (lo hi ix : List Int) (z : Bool) (hz : inX lo hi ix = z) (hle : lo.length ≤ hi.length) (w : World) (h : Ints w p lo) (h' : Ints w q hi) (hx : Ints w r ix) :
    Calls Try.prog 59 #[.agg #[.slice p lo.length c, .slice q hi.length f], .slice r ix.length d] w fun e w' => e = .returned (.bool z) ∧ Below w.heap.size w w' := hz ▸ BoxHas_any p q r c f d lo hi ix hle w h h' hx

theorem w06_minus (p q p' q' : Option Addr) (c f c' f' : Nat) (w : World) (h1 : Ints w p [0, 0]) (h2 : Ints w q [3, 3]) (h3 : Ints w p' [1, 1]) (h4 : Ints w q' [2, 3]) :
    Calls Try.prog 61 #[.agg #[.slice p 2 c, .slice q 2 f], .agg #[.slice p' 2 c', .slice q' 2 f']] w fun e w' =>
      (∃ g cap bs, e = .returned (.slice (some ⟨g, 0, none⟩) 3 cap) ∧ bs.length = 3 ∧ NewsB w.heap.size w' bs ∧ bs.map BoxV.bx = [([0, 0], [1, 3]), ([2, 0], [3, 3]), ([1, 0], [2, 1])] ∧ w'.ownsRow w.heap.size 67 2 (.slice (some ⟨g, 0, none⟩) 3 cap) 3 (flatB bs)) ∧ Below w.heap.size w w' := by
  have hm : Meets [0, 0] [3, 3] [1, 1] [2, 3] := by decide
  have e : minusX [0, 0] [3, 3] [1, 1] [2, 3] = [([0, 0], [1, 3]), ([2, 0], [3, 3]), ([1, 0], [2, 1])] := by decide
  refine (Minus_yes p q p' q' c f c' f' [0, 0] [3, 3] [1, 1] [2, 3] 2 2 rfl rfl rfl rfl (by decide) (NL.dec (by decide)) (NL.dec (by decide)) hm w h1 h2 h3 h4).mono ?_
  rintro e' w' ⟨⟨r, cap, bs, rfl, hn, hb, hv, ho⟩, hbw⟩
  rw [e] at hv
  have hl : bs.length = 3 := by
    have := congrArg List.length hv
    simpa using this
  have ho := ho hm
  rw [hl] at ho ⊢
  rcases hn with hn | ⟨g, rfl, -, -⟩
  · have := flatB_len (bs := bs)
    rw [hn, hl] at this
    simp at this
  · exact ⟨⟨g, cap, bs, rfl, hl, hb, hv, ho⟩, hbw⟩
theorem w06_meet1 (p q p' q' : Option Addr) (c f c' f' : Nat) (w : World) (h1 : Ints w p [0, 0]) (h2 : Ints w q [3, 3]) (h3 : Ints w p' [1, 1]) (h4 : Ints w q' [2, 3]) :
    Calls Try.prog 54 #[.agg #[.slice p 2 c, .slice q 2 f], .agg #[.slice p' 2 c', .slice q' 2 f']] w fun e w' =>
      (∃ p1 c1 p2 c2, e = .returned (.tuple #[.agg #[.slice p1 2 c1, .slice p2 2 c2], .bool true]) ∧ Ints w' p1 [1, 1] ∧ Ints w' p2 [2, 3]) ∧ Below w.heap.size w w' := by
  refine (Meet_is p q p' q' c f c' f' [0, 0] [3, 3] [1, 1] [2, 3] 2 2 rfl rfl rfl rfl (by decide) (fun _ _ => by decide) w h1 h2 h3 h4).mono ?_
  rintro e w' ⟨hret, hb⟩
  rw [if_pos (by decide)] at hret
  obtain ⟨p1, c1, p2, c2, he, k1, k2⟩ := hret
  exact ⟨⟨p1, c1, p2, c2, he, k1.ints (NL.dec (by decide)).i64 (by decide), k2.ints (NL.dec (by decide)).i64 (by decide)⟩, hb⟩
theorem w06_shift1 (p q : Option Addr) (c f : Nat) (w : World) (h1 : Ints w p [1, 1]) (h2 : Ints w q [2, 3]) :
    Calls Try.prog 63 #[.agg #[.slice p 2 c, .slice q 2 f], .int .i64 0, .int .i64 1] w fun e w' =>
      (∃ p1 c1 p2 c2, e = .returned (.tuple #[.agg #[.slice p1 2 c1, .slice p2 2 c2], .bool true]) ∧ Ints w' p1 [2, 1] ∧ Ints w' p2 [3, 3]) ∧ Below w.heap.size w w' := by
  refine (Shift_in p q c f [1, 1] [2, 3] 0 1 (by decide) rfl (by decide) (by decide) (by decide) w h1 h2).mono ?_
  rintro e w' ⟨hret, hb⟩
  rw [if_pos (by decide)] at hret
  obtain ⟨p1, c1, p2, c2, he, k1, k2⟩ := hret
  exact ⟨⟨p1, c1, p2, c2, he, k1.ints (NL.dec (by decide)).i64 (by decide), k2.ints (NL.dec (by decide)).i64 (by decide)⟩, hb⟩
theorem w06_shift2 (p q : Option Addr) (c f : Nat) (w : World) (h1 : Ints w p [1, 1]) (h2 : Ints w q [2, 3]) :
    Calls Try.prog 63 #[.agg #[.slice p 2 c, .slice q 2 f], .int .i64 0, .int .i64 (-2)] w fun e w' => e = .returned (.tuple #[.agg #[.slice none 0 0, .slice none 0 0], .bool false]) ∧ Below w.heap.size w w' := by
  refine (Shift_in p q c f [1, 1] [2, 3] 0 (-2) (by decide) rfl (by decide) (by decide) (by decide) w h1 h2).mono ?_
  rintro e w' ⟨hret, hb⟩
  rw [if_neg (by decide)] at hret
  exact ⟨hret, hb⟩

theorem wp_make_ints {w : World} {o : Oper} {a : Act} {K : Act → World → Prop} {Q : Exit → Act → World → Prop} (l c : Operand)
    (hop : o.op = Op.makeSlice 22 l c) (n : Nat) (hl : a.eval l = .int .i64 n) (hc : a.eval c = .int .i64 n) (hn : n ≤ 1099511627776)
    (hK : ∀ w', Own w' w.heap.size 3 ((List.replicate n (0 : Int)).map (.int .i64)) → w.grownBy w' none → K (a.put o.dst (.slice (some ⟨w.heap.size, 0, none⟩) n n)) w') : o.wp Try.prog a w K Q := by
  obtain ⟨i, hi, hz, hsize, hbytes⟩ := info_parts info_int
  obtain ⟨w', hrun, r1, r2⟩ := run_make_full (P := Try.prog) w w.heap.size 22 3 i _ 1 Try.underlying22 hi hz hsize .i64 .i64 n (by rw [hbytes]; omega) (by unfold maxLen; omega) (Nat.le_refl _)
  unfold Oper.wp
  simp [execOp, hop, hl, hc, hrun, Result.andThen]
  refine hK _ ?_ r2
  rw [Nat.mul_one, show (Value.int .i64 0).cells = #[.int .i64 0] from rfl, toList_madeCells_one] at r1
  rcases r1.2 with ⟨h, _⟩ | ⟨g, cap, cur, h, -, hg', -, -, hcs, ht⟩
  · cases h
  · cases h
    refine ⟨[], ?_⟩
    rw [List.map_replicate, List.append_nil, ← ht, List.take_of_length_le (by simp [hcs])]
    exact hg'

theorem ints_set {z : World} {B b : Nat} {p : Option Addr} {xs : List Int} (h : New B z p 3 (xs.map (.int .i64))) (hB : b < B) (hx : NL xs) (hl : xs.length ≤ 1000000) (u v : Value) : Ints ((z.setCell ⟨b, 0, none⟩ u).setCell ⟨b, 1, none⟩ v) p xs :=
  ((h.other (a := ⟨b, 0, none⟩) hB u).other (a := ⟨b, 1, none⟩) hB v).ints hx.i64 (by omega)

set_option maxRecDepth 100000 in
set_option maxHeartbeats 2000000 in
theorem w06_whole (p : Option Addr) (c : Nat) (w : World) (h : Ints w p [3, 3]) :
    Calls Try.prog 87 #[.slice p 2 c] w fun e w' => (∃ p1 c1 p2 c2, e = .returned (.agg #[.slice p1 2 c1, .slice p2 2 c2]) ∧ Ints w' p1 [0, 0] ∧ Ints w' p2 [3, 3]) ∧ Below w.heap.size w w' := by
  have b1 := below_alloc w (.cells #[.slice none 0 0, .slice none 0 0] 67)
  have OR := Own.made w w.heap.size [.slice none 0 0, .slice none 0 0] 67 rfl
  obtain ⟨W, hW⟩ : ∃ W, w.alloc (.cells #[.slice none 0 0, .slice none 0 0] 67) = W := ⟨_, rfl⟩
  have OR : Own W w.heap.size 67 [.slice none 0 0, .slice none 0 0] := hW ▸ OR
  rw [hW] at b1
  have HW := Lib.hid hW
  clear hW
  have hS : (fun w' => (∃ u v, Own w' w.heap.size 67 [u, v]) ∧ Below w.heap.size w w') W := ⟨⟨_, _, OR⟩, b1⟩
  have hKS : Keeps (fun w' => (∃ u v, Own w' w.heap.size 67 [u, v]) ∧ Below w.heap.size w w') := by
    rintro a b ⟨⟨u, v, ho⟩, h2⟩ hb
    exact ⟨⟨u, v, ho.keep hb ho.lt⟩, below_t h2 hb⟩
  have hKst : ∀ z x y, (fun w' => (∃ u v, Own w' w.heap.size 67 [u, v]) ∧ Below w.heap.size w w') z → (fun w' => (∃ u v, Own w' w.heap.size 67 [u, v]) ∧ Below w.heap.size w w') ((z.setCell ⟨w.heap.size, 0, none⟩ x).setCell ⟨w.heap.size, 1, none⟩ y) := by
    rintro z x y ⟨⟨u, v, ho⟩, h2⟩
    exact ⟨⟨x, y, (ho.set (i := 0) (by simp) x).set (i := 1) (by simp) y⟩, below_set (below_set h2 (Nat.le_refl _) 0 _) (Nat.le_refl _) 1 _⟩
  go_enter Try.func87, Try.ntmps87
  go_wp2_with fail
  rw [HW.out]
  refine wp_region_noPanic ?_
  refine wp_region_held_drew (S := (fun w' => (∃ u v, Own w' w.heap.size 67 [u, v]) ∧ Below w.heap.size w w')) (by kernel_rfl) ?_ (fun hHeld => ?_)
  · (try dsimp only); first | exact hKS _ _ (by first | exact hHeld | exact hS) (by first | assumption | (go_grown; done) | (refine from_drew ?_; go_grown; done)) | exact hKst _ _ _ hHeld
  refine takeH 0 (some 3) (v := ?_) rfl rfl (by kernel_rfl) (by kernel_rfl) (by kernel_rfl) (by rfl) ?_ (by exact hHeld) ?_
  rotate_left
  · intro w hSw; (try dsimp only at hSw); go_simp; try (with_reducible rfl)
  try simp only [Act.put, List.setIfInBounds_toArray, List.set_cons_zero, List.set_cons_succ]
  refine takeH 1 (some 4) (v := ?_) rfl rfl (by kernel_rfl) (by kernel_rfl) (by kernel_rfl) (by rfl) ?_ (by exact hHeld) ?_
  rotate_left
  · intro w hSw; (try dsimp only at hSw); go_simp; try (with_reducible rfl)
  try simp only [Act.put, List.setIfInBounds_toArray, List.set_cons_zero, List.set_cons_succ]
  refine takeH 3 (some 6) (v := ?_) rfl rfl (by kernel_rfl) (by kernel_rfl) (by kernel_rfl) (by rfl) ?_ (by exact hHeld) ?_
  rotate_left
  · intro w hSw; (try dsimp only at hSw); go_simp; try (with_reducible rfl)
  try simp only [Act.put, List.setIfInBounds_toArray, List.set_cons_zero, List.set_cons_succ]
  refine wpAnyH_ready (rs := [2, 4]) (by kernel_rfl) (by simp) ?_
  refine stepH 2 rfl (by rfl) (fun K hK => ?_) ?_
  · (refine wp_make_ints (.tmp 4) (.tmp 4) rfl 2 rfl rfl (by decide) ?_); intro w3 ho3 hg3; have hb3 := below_grown hg3
    refine hK.out _ _ ?_ (fun hNew => ?_)
    · (try dsimp only); first | exact hKS _ _ (by first | exact hHeld | exact hS) (by first | assumption | (go_grown; done) | (refine from_drew ?_; go_grown; done)) | exact hKst _ _ _ hHeld
    clear hK K hHeld
    have hHeld := hNew
    clear hNew
    try dsimp only at hHeld
    try simp only [Act.put, List.setIfInBounds_toArray, List.set_cons_zero, List.set_cons_succ]
    refine wpAnyH_ready (rs := [4]) (by kernel_rfl) (by simp) ?_
    refine stepH 4 rfl (by rfl) (fun K hK => ?_) ?_
    · go_simp
      ((with_reducible refine (Clone_is p c [3, 3] 2 _ rfl ?_ (by omega)).mono ?_); (exact h.keep hHeld.2); rintro e1 w1 ⟨⟨p1, c1, rfl, hn1⟩, hb1⟩)
      refine hK.out _ _ ?_ (fun hNew => ?_)
      · (try dsimp only); first | exact hKS _ _ (by first | exact hHeld | exact hS) (by first | assumption | (go_grown; done) | (refine from_drew ?_; go_grown; done)) | exact hKst _ _ _ hHeld
      clear hK K hHeld
      have hHeld := hNew
      clear hNew
      try dsimp only at hHeld
      try simp only [Act.put, List.setIfInBounds_toArray, List.set_cons_zero, List.set_cons_succ]
      refine takeH 5 (some 8) (v := ?_) rfl rfl (by kernel_rfl) (by kernel_rfl) (by kernel_rfl) (by rfl) ?_ (by exact hHeld) ?_
      rotate_left
      · intro w hSw; (try dsimp only at hSw); go_simp; try (with_reducible rfl)
      try simp only [Act.put, List.setIfInBounds_toArray, List.set_cons_zero, List.set_cons_succ]
      refine wpAnyH_ready (rs := [6]) (by kernel_rfl) (by simp) ?_
      refine stepH 6 rfl (by rfl) (fun K hK => ?_) ?_
      · obtain ⟨⟨u0, v0, hO⟩, hB1⟩ := id hHeld; have q0 := hO.cell (i := 0) rfl; have q1 := hO.cell (i := 1) rfl; have f0 := hO.frozen 0; have f1 := hO.frozen 1; go_simp
        refine hK.out _ _ ?_ (fun hNew => ?_)
        · (try dsimp only); first | exact hKS _ _ (by first | exact hHeld | exact hS) (by first | assumption | (go_grown; done) | (refine from_drew ?_; go_grown; done)) | exact hKst _ _ _ hHeld
        clear hK K hHeld
        have hHeld := hNew
        clear hNew
        try dsimp only at hHeld
        try simp only [Act.put, List.setIfInBounds_toArray, List.set_cons_zero, List.set_cons_succ]
        refine wpAnyH_done (by kernel_rfl) ?_ _
        refine NoPanic.normal ?_
        have hzW : w.heap.size < W.heap.size := OR.lt
        first | have hi0 := Lib.hid (fun u v => ints_set (b := w.heap.size) (B := w.heap.size + 1) (xs := [0, 0]) (.inr ⟨_, rfl, (by simp; omega), ho3.keep hb1 ho3.lt⟩) (Nat.lt_succ_self _) (NL.dec (by decide)) (by decide) u v) | have hi0 := Lib.hid (fun u v => ints_set (b := w.heap.size) (B := w.heap.size + 1) (xs := [0, 0]) (.inr ⟨_, rfl, (by have := hb1.size; simp at this; omega), ho3⟩) (Nat.lt_succ_self _) (NL.dec (by decide)) (by decide) u v)
        first | have hi1 := Lib.hid (fun u v => ints_set (b := w.heap.size) (B := w.heap.size + 1) (z := w1) (hn1.mono (by have := hb3.size; simp at this; omega)) (Nat.lt_succ_self _) (NL.dec (by decide)) (by decide) u v) | have hi1 := Lib.hid (fun u v => ints_set (b := w.heap.size) (B := w.heap.size + 1) (z := w3) ((hn1.keep' hb3).mono (by simp; omega)) (Nat.lt_succ_self _) (NL.dec (by decide)) (by decide) u v)
        have hbz := Lib.hid hHeld.2
        go_wp2_with fail
        refine bodyPost_ret (v := .agg #[.slice _ 2 2, .slice p1 2 c1]) (by simp [results, Try.results87, go_sem, q0, q1, f0, f1]) rfl ⟨⟨_, 2, p1, c1, rfl, hi0.out _ _, hi1.out _ _⟩, hbz.out⟩
      exact AllReadyH.nil
    exact AllReadyH.nil
  refine stepH 4 rfl (by rfl) (fun K hK => ?_) ?_
  · go_simp
    ((with_reducible refine (Clone_is p c [3, 3] 2 _ rfl ?_ (by omega)).mono ?_); (exact h.keep hHeld.2); rintro e1 w1 ⟨⟨p1, c1, rfl, hn1⟩, hb1⟩)
    refine hK.out _ _ ?_ (fun hNew => ?_)
    · (try dsimp only); first | exact hKS _ _ (by first | exact hHeld | exact hS) (by first | assumption | (go_grown; done) | (refine from_drew ?_; go_grown; done)) | exact hKst _ _ _ hHeld
    clear hK K hHeld
    have hHeld := hNew
    clear hNew
    try dsimp only at hHeld
    try simp only [Act.put, List.setIfInBounds_toArray, List.set_cons_zero, List.set_cons_succ]
    refine wpAnyH_ready (rs := [2]) (by kernel_rfl) (by simp) ?_
    refine stepH 2 rfl (by rfl) (fun K hK => ?_) ?_
    · (refine wp_make_ints (.tmp 4) (.tmp 4) rfl 2 rfl rfl (by decide) ?_); intro w3 ho3 hg3; have hb3 := below_grown hg3
      refine hK.out _ _ ?_ (fun hNew => ?_)
      · (try dsimp only); first | exact hKS _ _ (by first | exact hHeld | exact hS) (by first | assumption | (go_grown; done) | (refine from_drew ?_; go_grown; done)) | exact hKst _ _ _ hHeld
      clear hK K hHeld
      have hHeld := hNew
      clear hNew
      try dsimp only at hHeld
      try simp only [Act.put, List.setIfInBounds_toArray, List.set_cons_zero, List.set_cons_succ]
      refine takeH 5 (some 8) (v := ?_) rfl rfl (by kernel_rfl) (by kernel_rfl) (by kernel_rfl) (by rfl) ?_ (by exact hHeld) ?_
      rotate_left
      · intro w hSw; (try dsimp only at hSw); go_simp; try (with_reducible rfl)
      try simp only [Act.put, List.setIfInBounds_toArray, List.set_cons_zero, List.set_cons_succ]
      refine wpAnyH_ready (rs := [6]) (by kernel_rfl) (by simp) ?_
      refine stepH 6 rfl (by rfl) (fun K hK => ?_) ?_
      · obtain ⟨⟨u0, v0, hO⟩, hB1⟩ := id hHeld; have q0 := hO.cell (i := 0) rfl; have q1 := hO.cell (i := 1) rfl; have f0 := hO.frozen 0; have f1 := hO.frozen 1; go_simp
        refine hK.out _ _ ?_ (fun hNew => ?_)
        · (try dsimp only); first | exact hKS _ _ (by first | exact hHeld | exact hS) (by first | assumption | (go_grown; done) | (refine from_drew ?_; go_grown; done)) | exact hKst _ _ _ hHeld
        clear hK K hHeld
        have hHeld := hNew
        clear hNew
        try dsimp only at hHeld
        try simp only [Act.put, List.setIfInBounds_toArray, List.set_cons_zero, List.set_cons_succ]
        refine wpAnyH_done (by kernel_rfl) ?_ _
        refine NoPanic.normal ?_
        have hzW : w.heap.size < W.heap.size := OR.lt
        first | have hi0 := Lib.hid (fun u v => ints_set (b := w.heap.size) (B := w.heap.size + 1) (xs := [0, 0]) (.inr ⟨_, rfl, (by simp; omega), ho3.keep hb1 ho3.lt⟩) (Nat.lt_succ_self _) (NL.dec (by decide)) (by decide) u v) | have hi0 := Lib.hid (fun u v => ints_set (b := w.heap.size) (B := w.heap.size + 1) (xs := [0, 0]) (.inr ⟨_, rfl, (by have := hb1.size; simp at this; omega), ho3⟩) (Nat.lt_succ_self _) (NL.dec (by decide)) (by decide) u v)
        first | have hi1 := Lib.hid (fun u v => ints_set (b := w.heap.size) (B := w.heap.size + 1) (z := w1) (hn1.mono (by have := hb3.size; simp at this; omega)) (Nat.lt_succ_self _) (NL.dec (by decide)) (by decide) u v) | have hi1 := Lib.hid (fun u v => ints_set (b := w.heap.size) (B := w.heap.size + 1) (z := w3) ((hn1.keep' hb3).mono (by simp; omega)) (Nat.lt_succ_self _) (NL.dec (by decide)) (by decide) u v)
        have hbz := Lib.hid hHeld.2
        go_wp2_with fail
        refine bodyPost_ret (v := .agg #[.slice _ 2 2, .slice p1 2 c1]) (by simp [results, Try.results87, go_sem, q0, q1, f0, f1]) rfl ⟨⟨_, 2, p1, c1, rfl, hi0.out _ _, hi1.out _ _⟩, hbz.out⟩
      exact AllReadyH.nil
    exact AllReadyH.nil
  exact AllReadyH.nil
end Go.Proofs.Ythkfjdhakbjllaa
