/- access.Direct and its reference; Same of both; access.Right of an affine access. No condition beyond what each says. -/
import Derived.Test.YthkfjdhakbjllaaAcc4
import Derived.BigRegion
namespace Go.Proofs.Ythkfjdhakbjllaa
open Go.RowKit Go.Shelf
set_option linter.unusedVariables false
set_option linter.unusedSimpArgs false

set_option maxHeartbeats 1000000 in
theorem Direct_any (b : Int) (p : Option Addr) (c : Nat) (s : List Int) (w : World) (h : Ints w p s) :
    Calls Try.prog 69 #[.int .i64 b, .slice p s.length c] w fun e' w' => (∃ p' c', e' = .returned (.agg #[.int .i64 2, .int .i64 b, .int .i64 0, .slice p' (strideS s).length c', .int .i64 0, .int .i64 0, .int .i64 0]) ∧ New w.heap.size w' p' 3 ((strideS s).map (.int .i64))) ∧ Below w.heap.size w w' := by
  go_enter Try.func69, Try.ntmps69
  go_wp2_with fail
  refine (Strides_any p c s _ (h.keep (below_alloc _ _))).mono ?_
  rintro e1 w1 ⟨⟨p', c', rfl, hn⟩, hb1⟩
  have hA : At7 w1 w.heap.size 0 0 0 (.slice none 0 0) 0 0 0 := (At7.new w _ 0 0 0 (.slice none 0 0) 0 0 0 93 rfl).keep hb1
  have hf := fun i => (hb1.frozen (p := ⟨w.heap.size, i, none⟩) (by simp))
  have hf0 := hf 0
  have hf1 := hf 1
  have hf2 := hf 2
  have hf3 := hf 3
  have hf4 := hf 4
  have hf5 := hf 5
  have hf6 := hf 6
  simp [go_sem] at hf0 hf1 hf2 hf3 hf4 hf5 hf6
  clear hf
  have h0 := hA.c0
  have h1 := hA.c1
  have h2 := hA.c2
  have h3 := hA.c3
  have h4 := hA.c4
  have h5 := hA.c5
  have h6 := hA.c6
  have hb := below_1 hb1
  have hlt := hA.lt
  go_wp2_with fail
  refine bodyPost_ret (v := .agg #[.int .i64 2, .int .i64 b, .int .i64 0, .slice p' (strideS s).length c', .int .i64 0, .int .i64 0, .int .i64 0]) (by simp [results, Try.results69, go_sem, h0, h1, h2, h3, h4, h5, h6]) rfl ?_
  refine ⟨⟨p', c', rfl, ?_⟩, ?_⟩
  · have hn' : New (w.heap.size + 1) w1 p' 3 ((strideS s).map (.int .i64)) := hn.mono (by simp)
    exact (((((((hn'.other (by simp) _).other (by simp) _).other (by simp) _).other (by simp) _).other (by simp) _).other (by simp) _).other (by simp) _).mono (by omega)
  · exact ((((((hb.setCell (Nat.le_refl _) _).setCell (Nat.le_refl _) _).setCell (Nat.le_refl _) _).setCell (Nat.le_refl _) _).setCell (Nat.le_refl _) _).setCell (Nat.le_refl _) _).setCell (Nat.le_refl _) _

set_option maxHeartbeats 1000000 in
theorem RDirect_any (b : Int) (p : Option Addr) (c : Nat) (s : List Int) (w : World) (h : Ints w p s) :
    Calls Try.prog 71 #[.int .i64 b, .slice p s.length c] w fun e' w' => (∃ p' c', e' = .returned (.agg #[.int .i64 2, .int .i64 b, .int .i64 0, .slice p' (strideS s).length c', .int .i64 0, .int .i64 0, .int .i64 0]) ∧ New w.heap.size w' p' 3 ((strideS s).map (.int .i64))) ∧ Below w.heap.size w w' := by
  go_enter Try.func71, Try.ntmps71
  go_wp2_with fail
  refine (RefStrides_any p c s _ (h.keep (below_alloc _ _))).mono ?_
  rintro e1 w1 ⟨⟨p', c', rfl, hn⟩, hb1⟩
  have hA : At7 w1 w.heap.size 0 0 0 (.slice none 0 0) 0 0 0 := (At7.new w _ 0 0 0 (.slice none 0 0) 0 0 0 89 rfl).keep hb1
  have hf := fun i => (hb1.frozen (p := ⟨w.heap.size, i, none⟩) (by simp))
  have hf0 := hf 0
  have hf1 := hf 1
  have hf2 := hf 2
  have hf3 := hf 3
  have hf4 := hf 4
  have hf5 := hf 5
  have hf6 := hf 6
  simp [go_sem] at hf0 hf1 hf2 hf3 hf4 hf5 hf6
  clear hf
  have h0 := hA.c0
  have h1 := hA.c1
  have h2 := hA.c2
  have h3 := hA.c3
  have h4 := hA.c4
  have h5 := hA.c5
  have h6 := hA.c6
  have hb := below_1 hb1
  have hlt := hA.lt
  go_wp2_with fail
  refine bodyPost_ret (v := .agg #[.int .i64 2, .int .i64 b, .int .i64 0, .slice p' (strideS s).length c', .int .i64 0, .int .i64 0, .int .i64 0]) (by simp [results, Try.results71, go_sem, h0, h1, h2, h3, h4, h5, h6]) rfl ?_
  refine ⟨⟨p', c', rfl, ?_⟩, ?_⟩
  · have hn' : New (w.heap.size + 1) w1 p' 3 ((strideS s).map (.int .i64)) := hn.mono (by simp)
    exact (((((((hn'.other (by simp) _).other (by simp) _).other (by simp) _).other (by simp) _).other (by simp) _).other (by simp) _).other (by simp) _).mono (by omega)
  · exact ((((((hb.setCell (Nat.le_refl _) _).setCell (Nat.le_refl _) _).setCell (Nat.le_refl _) _).setCell (Nat.le_refl _) _).setCell (Nat.le_refl _) _).setCell (Nat.le_refl _) _).setCell (Nat.le_refl _) _

set_option maxHeartbeats 1000000 in
theorem RSame_yes (k b e : Int) (p : Option Addr) (c : Nat) (s : List Int) (st sp md : Int) (p' : Option Addr) (c' : Nat) (w : World) (h : Ints w p s) (h' : Ints w p' s) :
    Calls Try.prog 70 #[.agg #[.int .i64 k, .int .i64 b, .int .i64 e, .slice p s.length c, .int .i64 st, .int .i64 sp, .int .i64 md], .agg #[.int .i64 k, .int .i64 b, .int .i64 e, .slice p' s.length c', .int .i64 st, .int .i64 sp, .int .i64 md]] w fun e' w' => e' = .returned (.bool true) ∧ Below w.heap.size w w' := by
  have hq0 : (k == k) = true := by simp
  have hq1 : (b == b) = true := by simp
  have hq2 : (e == e) = true := by simp
  have hq3 : (st == st) = true := by simp
  have hq4 : (sp == sp) = true := by simp
  have hq5 : (md == md) = true := by simp
  go_enter Try.func70, Try.ntmps70
  go_wp2_with fail
  refine (RefEqual_is s s true (by simp [eqS]) _ _ _ _ _ (h.keep (below_t (below_alloc _ _) (below_alloc _ _))) (h'.keep (below_t (below_alloc _ _) (below_alloc _ _)))).mono ?_
  rintro e1 w1 ⟨rfl, hb1⟩
  go_wp2_with fail
  go_ret
  exact ⟨rfl, below_2 hb1⟩

theorem SEq_is (xs ys : List Int) (r : Bool) (hr : eqS xs ys = r) (a b : Option Addr) (c d : Nat) (w : World) (h : Ints w a xs) (h' : Ints w b ys) :
    Calls Try.prog 115 #[.slice a xs.length c, .slice b ys.length d] w fun e w' => e = .returned (.bool r) ∧ Below w.heap.size w w' :=
  (SlicesEqual_any a b c d xs ys w h h').mono fun e w' ⟨he, n, hw⟩ => ⟨by rw [he, hr], hw ▸ below_drewN _ _ _⟩

set_option maxHeartbeats 2000000 in
theorem ASame_yes (k b e : Int) (p : Option Addr) (c : Nat) (s : List Int) (st sp md : Int) (p' : Option Addr) (c' : Nat) (w : World) (h : Ints w p s) (h' : Ints w p' s)  :
    Calls Try.prog 102 #[.agg #[.int .i64 k, .int .i64 b, .int .i64 e, .slice p s.length c, .int .i64 st, .int .i64 sp, .int .i64 md], .agg #[.int .i64 k, .int .i64 b, .int .i64 e, .slice p' s.length c', .int .i64 st, .int .i64 sp, .int .i64 md]] w fun e' w' => e' = .returned (.bool true) ∧ Below w.heap.size w w' := by
  have hq0 : (k == k) = true := by simp
  have hq1 : (b == b) = true := by simp
  have hq2 : (e == e) = true := by simp
  have hq3 : (st == st) = true := by simp
  have hq4 : (sp == sp) = true := by simp
  have hq5 : (md == md) = true := by simp
  go_enter Try.func102, Try.ntmps102
  go_wp2_with fail
  go_region
  all_goals
    go_wp2_with fail
    refine (SEq_is s s true (by simp [eqS]) _ _ _ _ _ (h.keep (by go_grown)) (h'.keep (by go_grown))).mono ?_
    rintro e1 w1 ⟨rfl, hb1⟩
    have hx0 := fun i => hb1.cell (p := ⟨w.heap.size + 2, i, none⟩) (by simp)
    have hy0 := fun i => hb1.cell (p := ⟨w.heap.size + 3, i, none⟩) (by simp)
    have x0 := hx0 0
    have x1 := hx0 1
    have x2 := hx0 2
    have x4 := hx0 4
    have x5 := hx0 5
    have x6 := hx0 6
    have y0 := hy0 0
    have y1 := hy0 1
    have y2 := hy0 2
    have y4 := hy0 4
    have y5 := hy0 5
    have y6 := hy0 6
    simp [go_sem] at x0 x1 x2 x4 x5 x6 y0 y1 y2 y4 y5 y6
    clear hx0 hy0
    have hb : Below w.heap.size w w1 := below_t (by go_grown) hb1
    clear hb1
    go_wp2_with fail
    go_ret
    exact ⟨rfl, hb⟩

set_option maxHeartbeats 2000000 in
theorem ASame_no (k b e : Int) (p : Option Addr) (c : Nat) (s : List Int) (st sp md : Int) (k' b' e' : Int) (t : List Int) (st' sp' md' : Int) (p' : Option Addr) (c' : Nat) (w : World) (h : Ints w p s) (h' : Ints w p' t) (hne : eqS s t = false) :
    Calls Try.prog 102 #[.agg #[.int .i64 k, .int .i64 b, .int .i64 e, .slice p s.length c, .int .i64 st, .int .i64 sp, .int .i64 md], .agg #[.int .i64 k', .int .i64 b', .int .i64 e', .slice p' t.length c', .int .i64 st', .int .i64 sp', .int .i64 md']] w fun z w' => z = .returned (.bool false) ∧ Below w.heap.size w w' := by
  have Hne := Lib.hid hne
  clear hne
  go_enter Try.func102, Try.ntmps102
  go_wp2_with fail
  go_region
  all_goals
    go_wp2_with fail
    refine (SEq_is s t false Hne.out _ _ _ _ _ (h.keep (by go_grown)) (h'.keep (by go_grown))).mono ?_
    rintro e1 w1 ⟨rfl, hb1⟩
    have hx0 := fun i => hb1.cell (p := ⟨w.heap.size + 2, i, none⟩) (by simp)
    have hy0 := fun i => hb1.cell (p := ⟨w.heap.size + 3, i, none⟩) (by simp)
    have x0 := hx0 0
    have x1 := hx0 1
    have x2 := hx0 2
    have x4 := hx0 4
    have x5 := hx0 5
    have x6 := hx0 6
    have y0 := hy0 0
    have y1 := hy0 1
    have y2 := hy0 2
    have y4 := hy0 4
    have y5 := hy0 5
    have y6 := hy0 6
    simp [go_sem] at x0 x1 x2 x4 x5 x6 y0 y1 y2 y4 y5 y6
    clear hx0 hy0
    have hb : Below w.heap.size w w1 := below_t (by go_grown) hb1
    clear hb1
    go_wp2_with fail
    go_ret
    exact ⟨rfl, hb⟩

/-- an operation that its guard lets by, as one without a guard -/
theorem wpList_unguard {P : Program} {ops : Array Oper} {Q : Exit → Act → World → Prop} {a : Act} {w : World} {rest : List Oper} {o : Oper} (hw : Region.wanted o (yielded ops a.tmps) = true) (h : wpList P ops Q ({ o with guard := none } :: rest) a w) : wpList P ops Q (o :: rest) a w := by
  have h1 : Region.wanted { o with guard := none } (yielded ops a.tmps) = true := rfl
  simp only [wpList, hw, h1, if_true] at h ⊢
  exact h

theorem far_any (x : Int) (w : World) : Calls Try.prog 126 #[.int .i64 x] w fun e w' => e = .returned (.bool (!nearB 1099511627776 x)) ∧ w = w' := by
  by_cases h2 : x < -1099511627776
  · have H : Hid ((!nearB 1099511627776 x) = true) := by simp [Hid, nearB]; omega
    have hd : decide (x < -1099511627776) = true := by simpa using h2
    go_enter Try.func126, Try.ntmps126
    go_wp2
    go_ret
    exact ⟨ret_bool H.out.symm, rfl⟩
  · have H : Hid ((!nearB 1099511627776 x) = decide (1099511627776 < x)) := by
      have : decide (-1099511627776 ≤ x) = true := by simp; omega
      simp only [Hid, nearB, this, Bool.true_and]
      by_cases h : x ≤ 1099511627776 <;> simp [h] <;> omega
    have hd : decide (x < -1099511627776) = false := by simpa using h2
    go_enter Try.func126, Try.ntmps126
    go_wp2
    go_ret
    exact ⟨ret_bool H.out.symm, rfl⟩

set_option maxHeartbeats 2000000 in
theorem AccRight_aff (b e : Int) (p : Option Addr) (c : Nat) (s : List Int) (r : Nat) (res : Bool) (w : World) (h : Ints w p s) (hl : s.length ≤ 1000) (hr : r ≤ 16) (hb : 0 ≤ b) (hall : ([b, e, 0, 0, 0] ++ s).any (fun x => !nearB 1099511627776 x) = false) (hi : I64 b) (hi2 : I64 e) (hres : ((s.length : Int) == (r : Int)) = res) :
    Calls Try.prog 101 #[.agg #[.int .i64 2, .int .i64 b, .int .i64 e, .slice p s.length c, .int .i64 0, .int .i64 0, .int .i64 0], .int .i64 r] w fun e' w' => e' = .returned (.bool res) ∧ Below w.heap.size w w' := by
  have hr1 : decide ((r : Int) < 0) = false := by simp
  have hr2 : decide (16 < (r : Int)) = false := by simp; omega
  have Hall := Lib.hid hall
  have eg := enters_of Try.func126 (by kernel_rfl) rfl
  have hs1 := (h.keep (below_t (below_alloc w (.cells #[.int .i64 2, .int .i64 b, .int .i64 e, .slice p s.length c, .int .i64 0, .int .i64 0, .int .i64 0] 93)) (below_alloc _ (.cells #[.int .i64 b, .int .i64 e, .int .i64 0, .int .i64 0, .int .i64 0] 3)))).cells
  have Hi : Hid (∀ x ∈ [b, e, 0, 0, 0] ++ s, I64 x) := by
    intro x hx
    simp at hx
    rcases hx with rfl | rfl | rfl | hx
    · exact hi
    · exact hi2
    · exact ⟨by decide, by decide⟩
    · exact h.i64 x hx
  clear hall
  have hown0 : ((w.alloc (.cells #[.int .i64 2, .int .i64 b, .int .i64 e, .slice p s.length c, .int .i64 0, .int .i64 0, .int .i64 0] 93)).alloc (.cells #[.int .i64 b, .int .i64 e, .int .i64 0, .int .i64 0, .int .i64 0] 3)).ownsRow (w.heap.size + 1) 3 1 (.slice (some ⟨w.heap.size + 1, 0, none⟩) 5 5) 5 ([b, e, 0, 0, 0].map (.int .i64)) := by
    have := World.ownsRow_lit (base := w.heap.size + 1) (e := 3) (size := 1) (w.alloc (.cells #[.int .i64 2, .int .i64 b, .int .i64 e, .slice p s.length c, .int .i64 0, .int .i64 0, .int .i64 0] 93)) #[.int .i64 b, .int .i64 e, .int .i64 0, .int .i64 0, .int .i64 0] 5 (by simp) (by decide) rfl
    simpa using this
  have Hown := Lib.hid hown0
  have Hs := Lib.hid hs1
  clear hown0 hs1
  go_enter Try.func101, Try.ntmps101
  go_wp2_with (at_builtin; refine wpList_unguard (by rfl) ?_; refine append_ints rfl _ _ rfl (w.heap.size + 1) _ 5 ([b, e, 0, 0, 0].map (.int .i64)) rfl Hown.out p c s rfl Hs.out (by omega) (by simp) ?_; intro v' w1 hown hg)
  obtain ⟨p', c', rfl, hnew⟩ := row_new hown
  have hb1 : Below w.heap.size w w1 := (below_t (below_alloc w (.cells #[.int .i64 2, .int .i64 b, .int .i64 e, .slice p s.length c, .int .i64 0, .int .i64 0, .int .i64 0] 93)) (below_alloc _ (.cells #[.int .i64 b, .int .i64 e, .int .i64 0, .int .i64 0, .int .i64 0] 3))).grown hg (by simp; omega) (fun k hk => by cases hk; first | exact Nat.le_refl _ | exact Nat.le_succ _)
  have hA : At7 w1 w.heap.size 2 b e (.slice p s.length c) 0 0 0 := by
    have h0 := (At7.new w _ 2 b e (.slice p s.length c) 0 0 0 93 rfl).keep (below_alloc _ (.cells #[.int .i64 b, .int .i64 e, .int .i64 0, .int .i64 0, .int .i64 0] 3))
    have hbb : Below (w.heap.size + 1) ((w.alloc (.cells #[.int .i64 2, .int .i64 b, .int .i64 e, .slice p s.length c, .int .i64 0, .int .i64 0, .int .i64 0] 93)).alloc (.cells #[.int .i64 b, .int .i64 e, .int .i64 0, .int .i64 0, .int .i64 0] 3)) w1 := (Below.refl _ _).grown hg (by simp) (fun k hk => by cases hk; first | exact Nat.le_refl _ | exact Nat.le_succ _)
    exact ⟨Nat.lt_of_lt_of_le h0.lt hbb.size, (hbb.cell (p := ⟨w.heap.size, 0, none⟩) (by simp)).trans h0.c0, (hbb.cell (p := ⟨w.heap.size, 1, none⟩) (by simp)).trans h0.c1, (hbb.cell (p := ⟨w.heap.size, 2, none⟩) (by simp)).trans h0.c2, (hbb.cell (p := ⟨w.heap.size, 3, none⟩) (by simp)).trans h0.c3, (hbb.cell (p := ⟨w.heap.size, 4, none⟩) (by simp)).trans h0.c4, (hbb.cell (p := ⟨w.heap.size, 5, none⟩) (by simp)).trans h0.c5, (hbb.cell (p := ⟨w.heap.size, 6, none⟩) (by simp)).trans h0.c6⟩
  have hA0 := hA.c0
  have hA1 := hA.c1
  have hA3 := hA.c3
  have hA4 := hA.c4
  have hA5 := hA.c5
  have hA6 := hA.c6
  have hx : Ints w1 p' ([b, e, 0, 0, 0] ++ s) := by
    refine New.ints (B := w.heap.size + 1) (e := 3) ?_ Hi.out (by simp; omega)
    rw [List.map_append]
    exact hnew
  have hln : ([b, e, 0, 0, 0] ++ s).length = ([b, e, 0, 0, 0].map (Value.int .i64) ++ s.map (Value.int .i64)).length := by simp
  have Hx := Lib.hid hx
  have Hln := Lib.hid hln
  clear hown hg hnew hx hln Hown Hs
  go_wp2_with fail
  have hc := ContainsFunc_any 126 (fun x => !nearB 1099511627776 x) eg far_any p' c' ([b, e, 0, 0, 0] ++ s) w1 Hx.out
  rw [Hall.out] at hc
  rw [← Hln.out]
  refine hc.mono ?_
  rintro e1 w' ⟨rfl, rfl⟩
  have hb0 : decide (0 ≤ b) = true := by simpa using hb
  go_wp2_with fail
  all_goals
    go_ret
    exact ⟨ret_bool (by first | rfl | (symm; assumption) | (simp [*]; done)), hb1⟩
end Go.Proofs.Ythkfjdhakbjllaa
