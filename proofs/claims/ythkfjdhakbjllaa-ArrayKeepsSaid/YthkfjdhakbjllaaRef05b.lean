/- The copy that the reference of layer 5 makes (two appends in one statement whose order is open), its At and Small, and the reference's Small of layer 2. -/
import Derived.Test.YthkfjdhakbjllaaTab2
import Derived.Deep.AppendSrc
import Derived.Deep.RegionHeld3
import Derived.Deep.RegionLaw
namespace Go.Proofs.Ythkfjdhakbjllaa
open Go.RowKit Go.Shelf
set_option linter.unusedVariables false

/-- 'append(x, src...)' where x has no element and no room: a new row, if there is anything to append -/
theorem wp_append_fresh {P : Program} {o : Oper} {a : Act} {w : World} {K : Act → World → Prop} {Q : Exit → Act → World → Prop} (s x : Operand) (t : TypeId)
    (ho : o.op = .call { callee := .builtin .append, args := #[s, x], argTypes := #[t, t] })
    (e : TypeId) (z : Value) (bytes : Nat) (ht : P.underlying t = some (.slice e)) (hi : (P.info? e).map (fun i => (i.zero, i.size, i.bytes)) = some (some z, 1, bytes)) (hzc : z.cells = #[z])
    (q p : Option Addr) (m c : Nat) (news : List Value) (hs : a.eval s = .slice q 0 0) (hx : a.eval x = .slice p m c) (hl : news.length = m) (hsrc : Cells w p news) (h1 : ∀ u ∈ news, u.oneCell' = true) (hbig : m ≤ 1099511627776) (hby : bytes ≤ 128)
    (h : ∀ p' c' w', New w.heap.size w' p' e news → Below w.heap.size w w' → K (a.put o.dst (.slice p' m c')) w') : o.wp P a w K Q := by
  obtain ⟨i, hi, hz, hsize, hbytes⟩ := info_parts hi
  subst hl
  have hS : Src P i.size t (.slice p news.length c) news.length news w := by
    rw [hsize]
    cases p with
    | none =>
      have hn : news = [] := by
        rcases hsrc with h' | ⟨b, off, hp, _⟩
        · exact h'
        · cases hp
      subst hn
      exact Src.ofNil w ht c
    | some ad =>
      refine Src.ofSlice w ht ad _ c news (by simp) ?_ h1
      intro j u hu
      rcases hsrc with h' | ⟨b, off, hp, _, hc⟩
      · subst h'
        simp at hu
      · cases hp
        rw [Addr.add_lit]
        exact hc j u hu
  by_cases h0 : news.length = 0
  · have hn : news = [] := List.eq_nil_of_length_eq_zero h0
    subst hn
    have hrun : (Builtin.append_ #[t, t] o.type #[.slice q 0 0, .slice p 0 c]).run P w = .ok (.slice q 0 0) w := by
      cases q <;> cases p <;> simp [Builtin.append_, run_underlying ht, sizeOf, typeInfo, hi, Builtin.lenOf, Builtin.firstCells, storeCells, loadCells, loadCellsFrom]
    unfold Oper.wp
    simp only [List.length_nil] at hx
    simp [execOp, ho, resolve, invoke, builtin, hs, hx, hrun, Result.andThen]
    exact h q 0 w (.inl rfl) (Below.refl _ _)
  · have hold : (Builtin.firstCells i.size 0 (.slice q 0 0)).run P w.drew = .ok ([] : List Value).toArray w.drew := by
      cases q <;> simp [Builtin.firstCells, loadCells, loadCellsFrom]
    have hrun := run_append_grow_src (P := P) w t t o.type e i z ht hi hz q 0 0 [] hold (.slice p news.length c) news.length news hS (by omega) (by omega)
      (growslice_fits (by omega) (by rw [hbytes, Nat.zero_add]; have := Nat.mul_le_mul hbig hby; omega))
    rw [Nat.zero_add] at hrun
    unfold Oper.wp
    simp [execOp, ho, resolve, invoke, builtin, hs, hx, hrun, Result.andThen]
    refine h _ _ _ (.inr ⟨w.heap.size, rfl, Nat.le_refl _, ?_⟩) (((Below.refl _ w).drew).alloc (Nat.le_refl _) _)
    refine ⟨(Builtin.zeroCells z.cells (grownCap w news.length 0 e - news.length)).toList, ?_⟩
    rw [show (news ++ (Builtin.zeroCells z.cells (grownCap w news.length 0 e - news.length)).toList).toArray = news.toArray ++ Builtin.zeroCells z.cells (grownCap w news.length 0 e - news.length) by apply Array.ext'; simp]
    exact heap_alloc_new w.drew _

theorem step_append_fresh {P : Program} {ops : Array Oper} {o : Oper} {a : Act} {w : World} {K : Act → World → Prop} {Q : Exit → Act → World → Prop} {E : Prop} (hgd : o.guard = none) (s x : Operand) (t : TypeId)
    (ho : o.op = .call { callee := .builtin .append, args := #[s, x], argTypes := #[t, t] })
    (e : TypeId) (z : Value) (bytes : Nat) (ht : P.underlying t = some (.slice e)) (hi : (P.info? e).map (fun i => (i.zero, i.size, i.bytes)) = some (some z, 1, bytes)) (hzc : z.cells = #[z])
    (q p : Option Addr) (m c : Nat) (news : List Value) (hs : a.eval s = .slice q 0 0) (hx : a.eval x = .slice p m c) (hl : news.length = m) (hsrc : Cells w p news) (h1 : ∀ u ∈ news, u.oneCell' = true) (hbig : m ≤ 1099511627776) (hby : bytes ≤ 128)
    (h : ∀ p' c' w', New w.heap.size w' p' e news → Below w.heap.size w w' → K (a.put o.dst (.slice p' m c')) w') :
    if Region.wanted o (yielded ops a.tmps) = true then Oper.wp P o a w K Q else E := by
  have hw : Region.wanted o (yielded ops a.tmps) = true := by simp [Region.wanted, hgd]
  rw [if_pos hw]
  exact wp_append_fresh s x t ho e z bytes ht hi hzc q p m c news hs hx hl hsrc h1 hbig hby h


theorem step_fresh_int {ops : Array Oper} {o : Oper} {a : Act} {w : World} {K : Act → World → Prop} {Q : Exit → Act → World → Prop} {E : Prop} (hgd : o.guard = none) (s x : Operand)
    (ho : o.op = .call { callee := .builtin .append, args := #[s, x], argTypes := #[22, 22] })
    (q p : Option Addr) (c : Nat) (xs : List Int) (hs : a.eval s = .slice q 0 0) (hx : a.eval x = .slice p xs.length c) (hsrc : Cells w p (xs.map (.int .i64))) (hbig : xs.length ≤ 1099511627776)
    (h : ∀ p' c' w', New w.heap.size w' p' 3 (xs.map (.int .i64)) → Below w.heap.size w w' → K (a.put o.dst (.slice p' xs.length c')) w') :
    if Region.wanted o (yielded ops a.tmps) = true then Oper.wp Try.prog o a w K Q else E :=
  step_append_fresh hgd s x 22 ho 3 (.int .i64 0) 8 Try.underlying22 info_int rfl q p xs.length c (xs.map (.int .i64)) hs hx (by simp) hsrc int_cells hbig (by omega) h
theorem step_fresh_i64 {ops : Array Oper} {o : Oper} {a : Act} {w : World} {K : Act → World → Prop} {Q : Exit → Act → World → Prop} {E : Prop} (hgd : o.guard = none) (s x : Operand)
    (ho : o.op = .call { callee := .builtin .append, args := #[s, x], argTypes := #[41, 41] })
    (q p : Option Addr) (c : Nat) (xs : List Int) (hs : a.eval s = .slice q 0 0) (hx : a.eval x = .slice p xs.length c) (hsrc : Cells w p (xs.map (.int .i64))) (hbig : xs.length ≤ 1099511627776)
    (h : ∀ p' c' w', New w.heap.size w' p' 2 (xs.map (.int .i64)) → Below w.heap.size w w' → K (a.put o.dst (.slice p' xs.length c')) w') :
    if Region.wanted o (yielded ops a.tmps) = true then Oper.wp Try.prog o a w K Q else E :=
  step_append_fresh hgd s x 41 ho 2 (.int .i64 0) 8 Try.underlying41 info_i64 rfl q p xs.length c (xs.map (.int .i64)) hs hx (by simp) hsrc int_cells hbig (by omega) h

set_option maxHeartbeats 20000000 in
theorem RefCopy_any (p q : Option Addr) (c f : Nat) (s d : List Int) (w : World) (h : Ints w p s) (h' : Ints w q d) (hl : s.length ≤ 1099511627776) (hl' : d.length ≤ 1099511627776) :
    Calls Try.prog 43 #[.agg #[.slice p s.length c, .slice q d.length f]] w fun e w' =>
      (∃ p' c' q' f', e = .returned (.agg #[.slice p' s.length c', .slice q' d.length f']) ∧ New w.heap.size w' p' 3 (s.map (.int .i64)) ∧ New w.heap.size w' q' 2 (d.map (.int .i64))) ∧ Below w.heap.size w w' := by
  go_enter Try.func43, Try.ntmps43
  go_wp2_with fail
  obtain ⟨W0, hW0⟩ : ∃ W0, (w.alloc (.cells #[.slice p s.length c, .slice q d.length f] 43)).alloc (.cells #[.slice none 0 0, .slice none 0 0] 43) = W0 := ⟨_, rfl⟩
  have hc0 : W0.cell? ⟨w.heap.size, 0, none⟩ = some (.slice p s.length c) := by rw [← hW0]; simp [go_sem]
  have hc1 : W0.cell? ⟨w.heap.size, 1, none⟩ = some (.slice q d.length f) := by rw [← hW0]; simp [go_sem]
  have hc2 : W0.cell? ⟨w.heap.size + 1, 0, none⟩ = some (.slice none 0 0) := by rw [← hW0]; simp [go_sem]
  have hc3 : W0.cell? ⟨w.heap.size + 1, 1, none⟩ = some (.slice none 0 0) := by rw [← hW0]; simp [go_sem]
  have hf0 : W0.frozen? ⟨w.heap.size + 1, 0, none⟩ = false := by rw [← hW0]; simp [go_sem]
  have hf1 : W0.frozen? ⟨w.heap.size + 1, 1, none⟩ = false := by rw [← hW0]; simp [go_sem]
  have hl0 : w.heap.size < W0.heap.size := by rw [← hW0]; exact lt_a0 _ _ _
  have hl1 : w.heap.size + 1 < W0.heap.size := by rw [← hW0]; exact lt_a1 _ _ _
  have hbw : Below w.heap.size w W0 := by rw [← hW0]; exact below_two _ _ _
  have hs0 := (h.keep hbw).cells
  have hd0 := (h'.keep hbw).cells
  rw [hW0]
  clear hW0
  go_region_held3 (fun w' => w'.cell? ⟨w.heap.size, 0, none⟩ = some (.slice p s.length c) ∧ w'.cell? ⟨w.heap.size, 1, none⟩ = some (.slice q d.length f)) (go_keep) (first
    | (refine step_fresh_int (o := ⟨some 6, _, _, _, _, _⟩) rfl _ _ rfl _ p c s rfl rfl ?_ hl ?_; (exact hs0.keep (by go_grown)); intro p1 c1 w1 hn1 hb1; have hB1 := below_t (w := W0) (by go_grown) hb1; have hN1 : New W0.heap.size w1 p1 3 (s.map (.int .i64)) := hn1.mono (by first | exact Nat.le_refl _ | (simp; done) | (simp; omega)); have hx0 := (hB1.cell (p := ⟨w.heap.size, 0, none⟩) hl0).trans hc0; have hx1 := (hB1.cell (p := ⟨w.heap.size, 1, none⟩) hl0).trans hc1; have hr0 := (hB1.cell (p := ⟨w.heap.size + 1, 0, none⟩) hl1).trans hc2; have hr1 := (hB1.cell (p := ⟨w.heap.size + 1, 1, none⟩) hl1).trans hc3; have hq0 := (hB1.frozen (p := ⟨w.heap.size + 1, 0, none⟩) hl1).trans hf0; have hq1 := (hB1.frozen (p := ⟨w.heap.size + 1, 1, none⟩) hl1).trans hf1; have hza := Nat.lt_of_lt_of_le hl0 hB1.size; have hzb := Nat.lt_of_lt_of_le hl1 hB1.size; clear hb1 hn1)
    | (refine step_fresh_i64 (o := ⟨some 10, _, _, _, _, _⟩) rfl _ _ rfl _ q f d rfl rfl ?_ hl' ?_; (exact hd0.keep (below_t hB1 (by first | exact Below.refl _ _ | (go_grown; done)))); intro q1 f1 w2 hn2 hb2; have hB12 := below_t (w := w1) (by first | exact Below.refl _ _ | (go_grown; done)) hb2; have hB2 := below_t hB1 hB12; have hk1 := hN1.keep' hB12; have hN2 : New W0.heap.size w2 q1 2 (d.map (.int .i64)) := hn2.mono (Nat.le_trans hB1.size (by first | exact Nat.le_refl _ | (simp; done) | (simp; omega))); have hx0 := (hB2.cell (p := ⟨w.heap.size, 0, none⟩) hl0).trans hc0; have hx1 := (hB2.cell (p := ⟨w.heap.size, 1, none⟩) hl0).trans hc1; have hr0 := (hB2.cell (p := ⟨w.heap.size + 1, 0, none⟩) hl1).trans hc2; have hr1 := (hB2.cell (p := ⟨w.heap.size + 1, 1, none⟩) hl1).trans hc3; have hq0 := (hB2.frozen (p := ⟨w.heap.size + 1, 0, none⟩) hl1).trans hf0; have hq1 := (hB2.frozen (p := ⟨w.heap.size + 1, 1, none⟩) hl1).trans hf1; have hza := Nat.lt_of_lt_of_le hl0 hB2.size; have hzb := Nat.lt_of_lt_of_le hl1 hB2.size; clear hb2 hn2))
  all_goals
    go_wp2_with fail
    refine bodyPost_ret (v := .agg #[.slice p1 s.length c1, .slice q1 d.length f1]) (by simp [results, Try.results43, go_sem, hr0, hr1]) rfl ?_
    refine ⟨⟨p1, c1, q1, f1, rfl, ?_, ?_⟩, ?_⟩
    · exact ((hk1.other hl1 _).other hl1 _).mono (Nat.le_of_lt hl0)
    · exact ((hN2.other hl1 _).other hl1 _).mono (Nat.le_of_lt hl0)
    · exact ((below_t hbw hB2).setCell (by simp) _).setCell (by simp) _
end Go.Proofs.Ythkfjdhakbjllaa
