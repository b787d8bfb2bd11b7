/- The fixed results of layer 5 (array): awake, walked. No condition. -/
import Derived.Test.YthkfjdhakbjllaaRef05b
import Derived.Test.YthkfjdhakbjllaaRef05e
import Derived.Test.YthkfjdhakbjllaaHeld
namespace Go.Proofs.Ythkfjdhakbjllaa
open Go.RowKit Go.Shelf
set_option linter.unusedVariables false

/-- the two cells of an array's variable -/
structure At2 (w : World) (b : Nat) (u v : Value) : Prop where
  lt : b < w.heap.size
  c0 : w.cell? ⟨b, 0, none⟩ = some u
  c1 : w.cell? ⟨b, 1, none⟩ = some v
theorem At2.keep {w w' : World} {b : Nat} {u v : Value} (h : At2 w b u v) (hb : Below w.heap.size w w') : At2 w' b u v :=
  ⟨Nat.lt_of_lt_of_le h.lt hb.size, (hb.cell (p := ⟨b, 0, none⟩) h.lt).trans h.c0, (hb.cell (p := ⟨b, 1, none⟩) h.lt).trans h.c1⟩
theorem At2.new (w : World) (b : Nat) (u v : Value) (e : TypeId) (hb : b = w.heap.size) : At2 (w.alloc (.cells #[u, v] e)) b u v := by
  subst hb
  exact ⟨by simp, by simp [go_sem], by simp [go_sem]⟩

theorem ArrayNew_ok (s d : List Int) (hn : arrS s d = 0) (p q : Option Addr) (c f : Nat) (w : World) (h : Ints w p s) (h' : Ints w q d) (hl : s.length ≤ 1099511627776) (hl' : d.length ≤ 1099511627776) :
    Calls Try.prog 35 #[.slice p s.length c, .slice q d.length f] w fun e w' =>
      (∃ p' c' q' f', e = .returned (.tuple #[.agg #[.slice p' s.length c', .slice q' d.length f'], .int .i64 0]) ∧ Ints w' p' s ∧ Ints w' q' d) ∧ Below w.heap.size w w' := by
  have := ArrayNew_any p q c f s d w h h' hl hl' 0 hn
  rw [if_pos rfl, if_pos rfl] at this
  exact this
theorem ArrayNew_no (s d : List Int) (n : Int) (hn : arrS s d = n) (h0 : n ≠ 0) (p q : Option Addr) (c f : Nat) (w : World) (h : Ints w p s) (h' : Ints w q d) (hl : s.length ≤ 1099511627776) (hl' : d.length ≤ 1099511627776) :
    Calls Try.prog 35 #[.slice p s.length c, .slice q d.length f] w fun e w' =>
      (∃ p' c' q' f', e = .returned (.tuple #[.agg #[.slice p' 0 c', .slice q' 0 f'], .int .i64 n]) ∧ Ints w' p' [] ∧ Ints w' q' []) ∧ Below w.heap.size w w' := by
  have := ArrayNew_any p q c f s d w h h' hl hl' n hn
  rw [if_neg h0, if_neg h0] at this
  exact this
theorem ArrayAt_is (s d ix : List Int) (n : Int) (b : Bool) (hn : atS s d ix = (n, b)) (p q r : Option Addr) (c f g : Nat) (w : World) (h : Ints w p s) (h' : Ints w q d) (h'' : Ints w r ix) :
    Calls Try.prog 39 #[.agg #[.slice p s.length c, .slice q d.length f], .slice r ix.length g] w fun e w' => e = .returned (.tuple #[.int .i64 n, .bool b]) ∧ Below w.heap.size w w' := by
  have := ArrayAt_any p q r c f g s d ix w h h' h''
  rw [hn] at this
  exact this
theorem ArrayEqual_is (s d t e : List Int) (r : Bool) (hr : aeqS s d t e = r) (p q p' q' : Option Addr) (c f c' f' : Nat) (w : World) (h1 : Ints w p s) (h2 : Ints w q d) (h3 : Ints w p' t) (h4 : Ints w q' e) :
    Calls Try.prog 42 #[.agg #[.slice p s.length c, .slice q d.length f], .agg #[.slice p' t.length c', .slice q' e.length f']] w fun z w' => z = .returned (.bool r) ∧ Below w.heap.size w w' := hr ▸ ArrayEqual_any p q p' q' c f c' f' s d t e w h1 h2 h3 h4
theorem RefAEqual_is (s d t e : List Int) (r : Bool) (hr : aeqS s d t e = r) (p q p' q' : Option Addr) (c f c' f' : Nat) (w : World) (h1 : Ints w p s) (h2 : Ints w q d) (h3 : Ints w p' t) (h4 : Ints w q' e) :
    Calls Try.prog 38 #[.agg #[.slice p s.length c, .slice q d.length f], .agg #[.slice p' t.length c', .slice q' e.length f']] w fun z w' => z = .returned (.bool r) ∧ Below w.heap.size w w' := hr ▸ RefAEqual_any p q p' q' c f c' f' s d t e w h1 h2 h3 h4

/-- a literal's numbers, in the world before and after further blocks -/
theorem lit_ints (w : World) (xs : List Int) (hx : xs.all (fun x => decide (-9223372036854775808 ≤ x ∧ x ≤ 9223372036854775807)) = true) (hs : xs.length ≤ 9223372036854775807) (e : TypeId) :
    Ints (w.alloc (.cells (xs.map (Value.int .i64)).toArray e)) (some ⟨w.heap.size, 0, none⟩) xs := Ints.lit w _ xs e rfl (i64_all hx) hs

/-- five's function value, at the shape [2] -/
theorem five_gives (w : World) : Gives 79 #[] #[] none w.heap.size (fun _ _ => True) (fun k => k + 5) [2] 2 := by
  refine ⟨fun _ _ _ _ _ => trivial, fun k hk => ⟨by show (-9223372036854775808 : Int) ≤ (k : Int) + 5; omega, by show (k : Int) + 5 ≤ (9223372036854775807 : Int); omega⟩, ?_⟩
  intro k W q c hk hD _ hq
  have e : unoff [2] (k : Int) = [(k : Int)] := by
    match k, hk with
    | 0, _ => decide
    | 1, _ => decide
  rw [e] at hq ⊢
  exact (five_is k (by omega) (by omega) q c W hq).mono fun e w' ⟨he, hw⟩ => ⟨he, trivial, hw ▸ Chg.refl _ _⟩

theorem Tabulate_five (p : Option Addr) (c : Nat) (w : World) (h : Ints w p [2]) :
    Calls Try.prog 45 #[.slice p 1 c, .func (.func 79) #[] #[]] w fun e w' =>
      (∃ p' c' q' d', e = .returned (.tuple #[.agg #[.slice p' 1 c', .slice q' 2 d'], .int .i64 0]) ∧ Ints w' p' [2] ∧ Ints w' q' [5, 6]) ∧ Below w.heap.size w w' := by
  refine (Tabulate_yes 79 #[] #[] none (fun _ _ => True) (fun k => k + 5) [2] 2 (enters_of Try.func79 (by kernel_rfl) rfl) p c w (five_gives w) (by decide) (by decide) (by intro r hr; cases hr) trivial h).mono ?_
  rintro e w' ⟨⟨p', c', q', d', rfl, h1, h2⟩, -, hch⟩
  exact ⟨⟨p', c', q', d', rfl, h1, h2⟩, hch.below (Nat.le_refl _) (by intro k hk; cases hk)⟩

theorem a05_v (p : Option Addr) (c : Nat) (w : World) (h : Ints w p [5, 6]) :
    Calls Try.prog 41 #[.slice p 2 c] w fun e w' => (∃ p' c' q f, e = .returned (.agg #[.slice p' 1 c', .slice q 2 f]) ∧ Ints w' p' [2] ∧ Ints w' q [5, 6]) ∧ Below w.heap.size w w' := ArrayVector_any p c [5, 6] w h (by decide)
theorem a05_s (w : World) :
    Calls Try.prog 44 #[.int .i64 7] w fun e w' => (∃ q f, e = .returned (.agg #[.slice none 0 0, .slice q 1 f]) ∧ Ints w' q [7]) ∧ Below w.heap.size w w' := ArrayScalar_any 7 w ⟨by decide, by decide⟩
theorem a05_k (p q : Option Addr) (c f : Nat) (w : World) (h : Ints w p [2, 3]) (h' : Ints w q [1, 2, 3, 4, 5, 6]) :
    Calls Try.prog 37 #[.agg #[.slice p 2 c, .slice q 6 f]] w fun e w' => e = .returned (.int .i64 0) ∧ Below w.heap.size w w' := ArrayCheck_is [2, 3] [1, 2, 3, 4, 5, 6] 0 (by decide) p q c f w h h'
theorem a05_c (p q : Option Addr) (c f : Nat) (w : World) (h : Ints w p [2, 3]) (h' : Ints w q [1, 2, 3, 4, 5, 6]) :
    Calls Try.prog 49 #[.agg #[.slice p 2 c, .slice q 6 f]] w fun e w' =>
      (∃ p' c' q' f', e = .returned (.agg #[.slice p' 2 c', .slice q' 6 f']) ∧ Ints w' p' [2, 3] ∧ Ints w' q' [1, 2, 3, 4, 5, 6]) ∧ Below w.heap.size w w' := by
  refine (ArrayCopy_any p q c f [2, 3] [1, 2, 3, 4, 5, 6] w h h' (by decide) (by decide)).mono ?_
  rintro e w' ⟨⟨p', c', q', f', he, h1, h2⟩, hb⟩
  exact ⟨⟨p', c', q', f', he, h1.ints' h, h2.ints' h'⟩, hb⟩
theorem a05_1 (p q p' q' : Option Addr) (c f c' f' : Nat) (w : World) (h1 : Ints w p [2]) (h2 : Ints w q [5, 6]) (h3 : Ints w p' [2]) (h4 : Ints w q' [5, 6]) :
    Calls Try.prog 38 #[.agg #[.slice p 1 c, .slice q 2 f], .agg #[.slice p' 1 c', .slice q' 2 f']] w fun z w' => z = .returned (.bool true) ∧ Below w.heap.size w w' :=
  RefAEqual_is [2] [5, 6] [2] [5, 6] true (by decide) p q p' q' c f c' f' w h1 h2 h3 h4
theorem a05_2 (p q p' q' : Option Addr) (c f c' f' : Nat) (w : World) (h1 : Ints w p []) (h2 : Ints w q [7]) (h3 : Ints w p' []) (h4 : Ints w q' [7]) :
    Calls Try.prog 38 #[.agg #[.slice p 0 c, .slice q 1 f], .agg #[.slice p' 0 c', .slice q' 1 f']] w fun z w' => z = .returned (.bool true) ∧ Below w.heap.size w w' :=
  RefAEqual_is [] [7] [] [7] true (by decide) p q p' q' c f c' f' w h1 h2 h3 h4
theorem a05_3 (p q p' q' : Option Addr) (c f c' f' : Nat) (w : World) (h1 : Ints w p [2, 3]) (h2 : Ints w q [1, 2, 3, 4, 5, 6]) (h3 : Ints w p' [2, 3]) (h4 : Ints w q' [1, 2, 3, 4, 5, 6]) :
    Calls Try.prog 42 #[.agg #[.slice p 2 c, .slice q 6 f], .agg #[.slice p' 2 c', .slice q' 6 f']] w fun z w' => z = .returned (.bool true) ∧ Below w.heap.size w w' :=
  ArrayEqual_is [2, 3] [1, 2, 3, 4, 5, 6] [2, 3] [1, 2, 3, 4, 5, 6] true (by decide) p q p' q' c f c' f' w h1 h2 h3 h4
theorem a05_4 (p q p' q' : Option Addr) (c f c' f' : Nat) (w : World) (h1 : Ints w p [2, 3]) (h2 : Ints w q [1, 2, 3, 4, 5, 6]) (h3 : Ints w p' [2]) (h4 : Ints w q' [5, 6]) :
    Calls Try.prog 42 #[.agg #[.slice p 2 c, .slice q 6 f], .agg #[.slice p' 1 c', .slice q' 2 f']] w fun z w' => z = .returned (.bool false) ∧ Below w.heap.size w w' :=
  ArrayEqual_is [2, 3] [1, 2, 3, 4, 5, 6] [2] [5, 6] false (by decide) p q p' q' c f c' f' w h1 h2 h3 h4
theorem a05_5 (p q p' q' : Option Addr) (c f c' f' : Nat) (w : World) (h1 : Ints w p [2, 3]) (h2 : Ints w q [1, 2, 3, 4, 5, 6]) (h3 : Ints w p' [2, 3]) (h4 : Ints w q' [1, 2, 3, 4, 5, 6]) :
    Calls Try.prog 38 #[.agg #[.slice p 2 c, .slice q 6 f], .agg #[.slice p' 2 c', .slice q' 6 f']] w fun z w' => z = .returned (.bool true) ∧ Below w.heap.size w w' :=
  RefAEqual_is [2, 3] [1, 2, 3, 4, 5, 6] [2, 3] [1, 2, 3, 4, 5, 6] true (by decide) p q p' q' c f c' f' w h1 h2 h3 h4

set_option maxRecDepth 100000 in
set_option maxHeartbeats 4000000 in
theorem awake05 (w : World) : Calls Try.prog 33 #[] w fun e w' => e = .returned (.bool true) ∧ Below w.heap.size w w' := by
  go_enter Try.func33, Try.ntmps33
  go_wp2_with fail
  refine (ArrayNew_ok [2, 3] [1, 2, 3, 4, 5, 6] (by decide) _ _ _ _ _ ((lit_ints _ [2, 3] (by decide) (by simp) _).keep (below_alloc _ _)) (Ints.lit _ _ [1, 2, 3, 4, 5, 6] _ (by simp) (i64_all (by decide)) (by simp)) (by simp) (by simp)).mono ?_
  rintro e w1 ⟨⟨p, c, q, f, rfl, hi1, hi2⟩, hb1⟩
  have hw := below_2 hb1
  clear hb1
  go_wp2_with fail
  refine (ArrayAt_is [2, 3] [1, 2, 3, 4, 5, 6] [1, 2] 6 true (by decide) _ _ _ _ _ _ _ (hi1.keep (below_two _ _ _)) (hi2.keep (below_two _ _ _)) (Ints.lit _ _ [1, 2] _ (by simp) (i64_all (by decide)) (by simp))).mono ?_
  rintro e w2 ⟨rfl, hb2⟩
  have A := ((At2.new w1 _ (.slice p 2 c) (.slice q 6 f) 43 rfl).keep (below_alloc _ _)).keep hb2
  have hi1 := hi1.keep (below_2 hb2)
  have hi2 := hi2.keep (below_2 hb2)
  have hw := below_t hw (below_2 hb2)
  have hA0 := A.c0
  have hA1 := A.c1
  clear hb2
  go_wp2_with fail
  refine (ArrayAt_is [2, 3] [1, 2, 3, 4, 5, 6] [2, 0] 0 false (by decide) _ _ _ _ _ _ _ (hi1.keep (below_alloc _ _)) (hi2.keep (below_alloc _ _)) (Ints.lit _ _ [2, 0] _ (by simp) (i64_all (by decide)) (by simp))).mono ?_
  rintro e w3 ⟨rfl, hb3⟩
  have A := A.keep (below_1 hb3)
  have hi1 := hi1.keep (below_1 hb3)
  have hi2 := hi2.keep (below_1 hb3)
  have hw := below_t hw (below_1 hb3)
  clear hb3 hA0 hA1
  go_wp2_with fail
  refine (ArrayNew_no [2] [1] 5 (by decide) (by decide) _ _ _ _ _ ((lit_ints _ [2] (by decide) (by simp) _).keep (below_alloc _ _)) (Ints.lit _ _ [1] _ (by simp) (i64_all (by decide)) (by simp)) (by simp) (by simp)).mono ?_
  rintro e w4 ⟨⟨p4, c4, q4, f4, rfl, -, -⟩, hb4⟩
  have A := A.keep (below_2 hb4)
  have hi1 := hi1.keep (below_2 hb4)
  have hi2 := hi2.keep (below_2 hb4)
  have hw := below_t hw (below_2 hb4)
  clear hb4
  go_wp2_with fail
  refine (Tabulate_five _ _ _ (Ints.lit _ _ [2] _ (by simp) (i64_all (by decide)) (by simp))).mono ?_
  rintro e w5 ⟨⟨p5, c5, q5, f5, rfl, hj1, hj2⟩, hb5⟩
  have A := A.keep (below_t (below_alloc _ _) (below_1 hb5))
  have hi1 := hi1.keep (below_t (below_alloc _ _) (below_1 hb5))
  have hi2 := hi2.keep (below_t (below_alloc _ _) (below_1 hb5))
  have hw := below_t hw (below_t (below_alloc _ _) (below_1 hb5))
  clear hb5
  go_wp2_with fail
  have hKS : Keeps (fun w' => (w1.heap.size < w'.heap.size ∧ w'.cell? ⟨w1.heap.size, 0, none⟩ = some (.slice p 2 c) ∧ w'.cell? ⟨w1.heap.size, 1, none⟩ = some (.slice q 6 f)) ∧ (w5.heap.size < w'.heap.size ∧ w'.cell? ⟨w5.heap.size, 0, none⟩ = some (.slice p5 1 c5) ∧ w'.cell? ⟨w5.heap.size, 1, none⟩ = some (.slice q5 2 f5)) ∧ Ints w' p [2, 3] ∧ Ints w' q [1, 2, 3, 4, 5, 6] ∧ Ints w' p5 [2] ∧ Ints w' q5 [5, 6] ∧ Below w.heap.size w w') :=
    (keeps_cells _ _ _).and ((keeps_cells _ _ _).and ((keeps_ints _ _).and ((keeps_ints _ _).and ((keeps_ints _ _).and ((keeps_ints _ _).and (keeps_below _))))))
  have T := At2.new w5 _ (.slice p5 1 c5) (.slice q5 2 f5) 43 rfl
  have A := A.keep (below_alloc w5 (.cells #[.slice p5 1 c5, .slice q5 2 f5] 43))
  have hS := hKS _ (w5.alloc (.cells #[.slice p5 1 c5, .slice q5 2 f5] 43)) ⟨⟨A.lt, A.c0, A.c1⟩, ⟨T.lt, T.c0, T.c1⟩, hi1.keep (below_alloc _ _), hi2.keep (below_alloc _ _), hj1.keep (below_alloc _ _), hj2.keep (below_alloc _ _), below_t hw (below_alloc _ _)⟩ (Below.refl _ _)
  clear A T hi1 hi2 hj1 hj2 hw
  go_region_held3? (fun w' => (w1.heap.size < w'.heap.size ∧ w'.cell? ⟨w1.heap.size, 0, none⟩ = some (.slice p 2 c) ∧ w'.cell? ⟨w1.heap.size, 1, none⟩ = some (.slice q 6 f)) ∧ (w5.heap.size < w'.heap.size ∧ w'.cell? ⟨w5.heap.size, 0, none⟩ = some (.slice p5 1 c5) ∧ w'.cell? ⟨w5.heap.size, 1, none⟩ = some (.slice q5 2 f5)) ∧ Ints w' p [2, 3] ∧ Ints w' q [1, 2, 3, 4, 5, 6] ∧ Ints w' p5 [2] ∧ Ints w' q5 [5, 6] ∧ Below w.heap.size w w') (exact hKS _ _ (by assumption) (by first | assumption | (go_grown; done) | (refine from_drew ?_; go_grown; done))) (first
    | (go_at_call 41; (with_reducible refine (a05_v _ _ _ ?_ ).mono ?_); (first | exact lit_drew _ _ [5, 6] _ (by simp) (i64_all (by decide)) (by simp) | exact Ints.lit _ _ [5, 6] _ (by simp) (i64_all (by decide)) (by simp)); rintro e w6 ⟨⟨p6, c6, q6, f6, rfl, hv1, hv2⟩, hb6⟩)
    | (go_at_call 38; (with_reducible refine (a05_1 _ _ _ _ _ _ _ _ _ ?_ ?_ ?_ ?_ ).mono ?_); (first | (go_split_ands; assumption) | exact Ints.nil _ | exact lit_drew _ _ [7] _ (by simp) (i64_all (by decide)) (by simp) | exact Ints.lit _ _ [7] _ (by simp) (i64_all (by decide)) (by simp) | exact Ints.keep (by assumption) (below_alloc _ _) | (refine Ints.keep ?_ (by assumption); first | exact lit_drew _ _ [7] _ (by simp) (i64_all (by decide)) (by simp) | exact Ints.lit _ _ [7] _ (by simp) (i64_all (by decide)) (by simp))); (first | (go_split_ands; assumption) | exact Ints.nil _ | exact lit_drew _ _ [7] _ (by simp) (i64_all (by decide)) (by simp) | exact Ints.lit _ _ [7] _ (by simp) (i64_all (by decide)) (by simp) | exact Ints.keep (by assumption) (below_alloc _ _) | (refine Ints.keep ?_ (by assumption); first | exact lit_drew _ _ [7] _ (by simp) (i64_all (by decide)) (by simp) | exact Ints.lit _ _ [7] _ (by simp) (i64_all (by decide)) (by simp))); (first | (go_split_ands; assumption) | exact Ints.nil _ | exact lit_drew _ _ [7] _ (by simp) (i64_all (by decide)) (by simp) | exact Ints.lit _ _ [7] _ (by simp) (i64_all (by decide)) (by simp) | exact Ints.keep (by assumption) (below_alloc _ _) | (refine Ints.keep ?_ (by assumption); first | exact lit_drew _ _ [7] _ (by simp) (i64_all (by decide)) (by simp) | exact Ints.lit _ _ [7] _ (by simp) (i64_all (by decide)) (by simp))); (first | (go_split_ands; assumption) | exact Ints.nil _ | exact lit_drew _ _ [7] _ (by simp) (i64_all (by decide)) (by simp) | exact Ints.lit _ _ [7] _ (by simp) (i64_all (by decide)) (by simp) | exact Ints.keep (by assumption) (below_alloc _ _) | (refine Ints.keep ?_ (by assumption); first | exact lit_drew _ _ [7] _ (by simp) (i64_all (by decide)) (by simp) | exact Ints.lit _ _ [7] _ (by simp) (i64_all (by decide)) (by simp))); rintro e w7 ⟨rfl, hb7⟩)
    | (go_at_call 44; (with_reducible refine (a05_s _ ).mono ?_); rintro e w8 ⟨⟨q8, f8, rfl, hs8⟩, hb8⟩)
    | (go_at_call 38; (with_reducible refine (a05_2 _ _ _ _ _ _ _ _ _ ?_ ?_ ?_ ?_ ).mono ?_); (first | (go_split_ands; assumption) | exact Ints.nil _ | exact lit_drew _ _ [7] _ (by simp) (i64_all (by decide)) (by simp) | exact Ints.lit _ _ [7] _ (by simp) (i64_all (by decide)) (by simp) | exact Ints.keep (by assumption) (below_alloc _ _) | (refine Ints.keep ?_ (by assumption); first | exact lit_drew _ _ [7] _ (by simp) (i64_all (by decide)) (by simp) | exact Ints.lit _ _ [7] _ (by simp) (i64_all (by decide)) (by simp))); (first | (go_split_ands; assumption) | exact Ints.nil _ | exact lit_drew _ _ [7] _ (by simp) (i64_all (by decide)) (by simp) | exact Ints.lit _ _ [7] _ (by simp) (i64_all (by decide)) (by simp) | exact Ints.keep (by assumption) (below_alloc _ _) | (refine Ints.keep ?_ (by assumption); first | exact lit_drew _ _ [7] _ (by simp) (i64_all (by decide)) (by simp) | exact Ints.lit _ _ [7] _ (by simp) (i64_all (by decide)) (by simp))); (first | (go_split_ands; assumption) | exact Ints.nil _ | exact lit_drew _ _ [7] _ (by simp) (i64_all (by decide)) (by simp) | exact Ints.lit _ _ [7] _ (by simp) (i64_all (by decide)) (by simp) | exact Ints.keep (by assumption) (below_alloc _ _) | (refine Ints.keep ?_ (by assumption); first | exact lit_drew _ _ [7] _ (by simp) (i64_all (by decide)) (by simp) | exact Ints.lit _ _ [7] _ (by simp) (i64_all (by decide)) (by simp))); (first | (go_split_ands; assumption) | exact Ints.nil _ | exact lit_drew _ _ [7] _ (by simp) (i64_all (by decide)) (by simp) | exact Ints.lit _ _ [7] _ (by simp) (i64_all (by decide)) (by simp) | exact Ints.keep (by assumption) (below_alloc _ _) | (refine Ints.keep ?_ (by assumption); first | exact lit_drew _ _ [7] _ (by simp) (i64_all (by decide)) (by simp) | exact Ints.lit _ _ [7] _ (by simp) (i64_all (by decide)) (by simp))); rintro e w9 ⟨rfl, hb9⟩)
    | (go_at_call 42; (with_reducible refine (a05_3 _ _ _ _ _ _ _ _ _ ?_ ?_ ?_ ?_ ).mono ?_); (first | (go_split_ands; assumption) | exact Ints.nil _ | exact lit_drew _ _ [7] _ (by simp) (i64_all (by decide)) (by simp) | exact Ints.lit _ _ [7] _ (by simp) (i64_all (by decide)) (by simp) | exact Ints.keep (by assumption) (below_alloc _ _) | (refine Ints.keep ?_ (by assumption); first | exact lit_drew _ _ [7] _ (by simp) (i64_all (by decide)) (by simp) | exact Ints.lit _ _ [7] _ (by simp) (i64_all (by decide)) (by simp))); (first | (go_split_ands; assumption) | exact Ints.nil _ | exact lit_drew _ _ [7] _ (by simp) (i64_all (by decide)) (by simp) | exact Ints.lit _ _ [7] _ (by simp) (i64_all (by decide)) (by simp) | exact Ints.keep (by assumption) (below_alloc _ _) | (refine Ints.keep ?_ (by assumption); first | exact lit_drew _ _ [7] _ (by simp) (i64_all (by decide)) (by simp) | exact Ints.lit _ _ [7] _ (by simp) (i64_all (by decide)) (by simp))); (first | (go_split_ands; assumption) | exact Ints.nil _ | exact lit_drew _ _ [7] _ (by simp) (i64_all (by decide)) (by simp) | exact Ints.lit _ _ [7] _ (by simp) (i64_all (by decide)) (by simp) | exact Ints.keep (by assumption) (below_alloc _ _) | (refine Ints.keep ?_ (by assumption); first | exact lit_drew _ _ [7] _ (by simp) (i64_all (by decide)) (by simp) | exact Ints.lit _ _ [7] _ (by simp) (i64_all (by decide)) (by simp))); (first | (go_split_ands; assumption) | exact Ints.nil _ | exact lit_drew _ _ [7] _ (by simp) (i64_all (by decide)) (by simp) | exact Ints.lit _ _ [7] _ (by simp) (i64_all (by decide)) (by simp) | exact Ints.keep (by assumption) (below_alloc _ _) | (refine Ints.keep ?_ (by assumption); first | exact lit_drew _ _ [7] _ (by simp) (i64_all (by decide)) (by simp) | exact Ints.lit _ _ [7] _ (by simp) (i64_all (by decide)) (by simp))); rintro e wa ⟨rfl, hba⟩)
    | (go_at_call 42; (with_reducible refine (a05_4 _ _ _ _ _ _ _ _ _ ?_ ?_ ?_ ?_ ).mono ?_); (first | (go_split_ands; assumption) | exact Ints.nil _ | exact lit_drew _ _ [7] _ (by simp) (i64_all (by decide)) (by simp) | exact Ints.lit _ _ [7] _ (by simp) (i64_all (by decide)) (by simp) | exact Ints.keep (by assumption) (below_alloc _ _) | (refine Ints.keep ?_ (by assumption); first | exact lit_drew _ _ [7] _ (by simp) (i64_all (by decide)) (by simp) | exact Ints.lit _ _ [7] _ (by simp) (i64_all (by decide)) (by simp))); (first | (go_split_ands; assumption) | exact Ints.nil _ | exact lit_drew _ _ [7] _ (by simp) (i64_all (by decide)) (by simp) | exact Ints.lit _ _ [7] _ (by simp) (i64_all (by decide)) (by simp) | exact Ints.keep (by assumption) (below_alloc _ _) | (refine Ints.keep ?_ (by assumption); first | exact lit_drew _ _ [7] _ (by simp) (i64_all (by decide)) (by simp) | exact Ints.lit _ _ [7] _ (by simp) (i64_all (by decide)) (by simp))); (first | (go_split_ands; assumption) | exact Ints.nil _ | exact lit_drew _ _ [7] _ (by simp) (i64_all (by decide)) (by simp) | exact Ints.lit _ _ [7] _ (by simp) (i64_all (by decide)) (by simp) | exact Ints.keep (by assumption) (below_alloc _ _) | (refine Ints.keep ?_ (by assumption); first | exact lit_drew _ _ [7] _ (by simp) (i64_all (by decide)) (by simp) | exact Ints.lit _ _ [7] _ (by simp) (i64_all (by decide)) (by simp))); (first | (go_split_ands; assumption) | exact Ints.nil _ | exact lit_drew _ _ [7] _ (by simp) (i64_all (by decide)) (by simp) | exact Ints.lit _ _ [7] _ (by simp) (i64_all (by decide)) (by simp) | exact Ints.keep (by assumption) (below_alloc _ _) | (refine Ints.keep ?_ (by assumption); first | exact lit_drew _ _ [7] _ (by simp) (i64_all (by decide)) (by simp) | exact Ints.lit _ _ [7] _ (by simp) (i64_all (by decide)) (by simp))); rintro e wb ⟨rfl, hbb⟩)
    | (go_at_call 49; (with_reducible refine (a05_c _ _ _ _ _ ?_ ?_ ).mono ?_); (first | (go_split_ands; assumption) | exact Ints.nil _ | exact lit_drew _ _ [7] _ (by simp) (i64_all (by decide)) (by simp) | exact Ints.lit _ _ [7] _ (by simp) (i64_all (by decide)) (by simp) | exact Ints.keep (by assumption) (below_alloc _ _) | (refine Ints.keep ?_ (by assumption); first | exact lit_drew _ _ [7] _ (by simp) (i64_all (by decide)) (by simp) | exact Ints.lit _ _ [7] _ (by simp) (i64_all (by decide)) (by simp))); (first | (go_split_ands; assumption) | exact Ints.nil _ | exact lit_drew _ _ [7] _ (by simp) (i64_all (by decide)) (by simp) | exact Ints.lit _ _ [7] _ (by simp) (i64_all (by decide)) (by simp) | exact Ints.keep (by assumption) (below_alloc _ _) | (refine Ints.keep ?_ (by assumption); first | exact lit_drew _ _ [7] _ (by simp) (i64_all (by decide)) (by simp) | exact Ints.lit _ _ [7] _ (by simp) (i64_all (by decide)) (by simp))); rintro e wc ⟨⟨pc, cc, qc, fc, rfl, hc1, hc2⟩, hbc⟩)
    | (go_at_call 38; (with_reducible refine (a05_5 _ _ _ _ _ _ _ _ _ ?_ ?_ ?_ ?_ ).mono ?_); (first | (go_split_ands; assumption) | exact Ints.nil _ | exact lit_drew _ _ [7] _ (by simp) (i64_all (by decide)) (by simp) | exact Ints.lit _ _ [7] _ (by simp) (i64_all (by decide)) (by simp) | exact Ints.keep (by assumption) (below_alloc _ _) | (refine Ints.keep ?_ (by assumption); first | exact lit_drew _ _ [7] _ (by simp) (i64_all (by decide)) (by simp) | exact Ints.lit _ _ [7] _ (by simp) (i64_all (by decide)) (by simp))); (first | (go_split_ands; assumption) | exact Ints.nil _ | exact lit_drew _ _ [7] _ (by simp) (i64_all (by decide)) (by simp) | exact Ints.lit _ _ [7] _ (by simp) (i64_all (by decide)) (by simp) | exact Ints.keep (by assumption) (below_alloc _ _) | (refine Ints.keep ?_ (by assumption); first | exact lit_drew _ _ [7] _ (by simp) (i64_all (by decide)) (by simp) | exact Ints.lit _ _ [7] _ (by simp) (i64_all (by decide)) (by simp))); (first | (go_split_ands; assumption) | exact Ints.nil _ | exact lit_drew _ _ [7] _ (by simp) (i64_all (by decide)) (by simp) | exact Ints.lit _ _ [7] _ (by simp) (i64_all (by decide)) (by simp) | exact Ints.keep (by assumption) (below_alloc _ _) | (refine Ints.keep ?_ (by assumption); first | exact lit_drew _ _ [7] _ (by simp) (i64_all (by decide)) (by simp) | exact Ints.lit _ _ [7] _ (by simp) (i64_all (by decide)) (by simp))); (first | (go_split_ands; assumption) | exact Ints.nil _ | exact lit_drew _ _ [7] _ (by simp) (i64_all (by decide)) (by simp) | exact Ints.lit _ _ [7] _ (by simp) (i64_all (by decide)) (by simp) | exact Ints.keep (by assumption) (below_alloc _ _) | (refine Ints.keep ?_ (by assumption); first | exact lit_drew _ _ [7] _ (by simp) (i64_all (by decide)) (by simp) | exact Ints.lit _ _ [7] _ (by simp) (i64_all (by decide)) (by simp))); rintro e wd ⟨rfl, hbd⟩)
    | (go_at_call 37; (with_reducible refine (a05_k _ _ _ _ _ ?_ ?_ ).mono ?_); (first | (go_split_ands; assumption) | exact Ints.nil _ | exact lit_drew _ _ [7] _ (by simp) (i64_all (by decide)) (by simp) | exact Ints.lit _ _ [7] _ (by simp) (i64_all (by decide)) (by simp) | exact Ints.keep (by assumption) (below_alloc _ _) | (refine Ints.keep ?_ (by assumption); first | exact lit_drew _ _ [7] _ (by simp) (i64_all (by decide)) (by simp) | exact Ints.lit _ _ [7] _ (by simp) (i64_all (by decide)) (by simp))); (first | (go_split_ands; assumption) | exact Ints.nil _ | exact lit_drew _ _ [7] _ (by simp) (i64_all (by decide)) (by simp) | exact Ints.lit _ _ [7] _ (by simp) (i64_all (by decide)) (by simp) | exact Ints.keep (by assumption) (below_alloc _ _) | (refine Ints.keep ?_ (by assumption); first | exact lit_drew _ _ [7] _ (by simp) (i64_all (by decide)) (by simp) | exact Ints.lit _ _ [7] _ (by simp) (i64_all (by decide)) (by simp))); rintro e we ⟨rfl, hbe⟩))
  all_goals
    go_wp2_with fail
    go_ret
    refine ⟨rfl, ?_⟩
    go_split_ands
    assumption
end Go.Proofs.Ythkfjdhakbjllaa
