/- 'append(x, src...)' where x has no element and no room, at an operation of a region that draws its order; what a call leaves of old cells, as two rules. No condition. -/
import Derived.Test.YtjehgcmcphgofaaOwn
import Derived.Deep.AppendSrc
namespace Go.Proofs.Ytjehgcmcphgofaa
open Go.RowKit Go.Shelf
set_option linter.unusedVariables false

theorem bcell {W w1 : World} (hb : Below W.heap.size W w1) : (∀ b o, b < W.heap.size → w1.cell? ⟨b, o, none⟩ = W.cell? ⟨b, o, none⟩) ∧ (∀ b o, b < W.heap.size → w1.frozen? ⟨b, o, none⟩ = W.frozen? ⟨b, o, none⟩) :=
  ⟨fun b o h => hb.cell (p := ⟨b, o, none⟩) h, fun b o h => hb.frozen (p := ⟨b, o, none⟩) h⟩

/-- 'append(x, src...)' where x has no element and no room: a new row, if there is anything to append -/
theorem wp_append_fresh {P : Program} {o : Oper} {a : Act} {w : World} {K : Act → World → Prop} {Q : Exit → Act → World → Prop} (s x : Operand) (t : TypeId)
    (ho : o.op = .call { callee := .builtin .append, args := #[s, x], argTypes := #[t, t] })
    (e : TypeId) (z : Value) (bytes : Nat) (ht : P.underlying t = some (.slice e)) (hi : (P.info? e).map (fun i => (i.zero, i.size, i.bytes)) = some (some z, 1, bytes)) (hzc : z.cells = #[z])
    (q p : Option Addr) (m c : Nat) (news : List Value) (hs : a.eval s = .slice q 0 0) (hx : a.eval x = .slice p m c) (hl : news.length = m) (hsrc : Cells w p news) (h1 : ∀ u ∈ news, u.oneCell' = true) (hbig : m ≤ 1099511627776) (hby : bytes ≤ 128)
    (h : ∀ p' c' w', New w.heap.size w' p' e news → Below w.heap.size w w' → K (a.put o.dst (.slice p' m c')) w') : o.wp P a w K Q := by
  obtain ⟨i, hi, hz, hsize, hbytes⟩ := info_parts hi
  subst hl
  have hS : Src P i.size t (.slice p news.length c) news.length news w := by
    rw [hsize]
    cases p with
    | none =>
      have hn : news = [] := by
        rcases hsrc with h' | ⟨b, off, hp, _⟩
        · exact h'
        · cases hp
      subst hn
      exact Src.ofNil w ht c
    | some ad =>
      refine Src.ofSlice w ht ad _ c news (by simp) ?_ h1
      intro j u hu
      rcases hsrc with h' | ⟨b, off, hp, _, hc⟩
      · subst h'
        simp at hu
      · cases hp
        rw [Addr.add_lit]
        exact hc j u hu
  by_cases h0 : news.length = 0
  · have hn : news = [] := List.eq_nil_of_length_eq_zero h0
    subst hn
    have hrun : (Builtin.append_ #[t, t] o.type #[.slice q 0 0, .slice p 0 c]).run P w = .ok (.slice q 0 0) w := by
      cases q <;> cases p <;> simp [Builtin.append_, run_underlying ht, sizeOf, typeInfo, hi, Builtin.lenOf, Builtin.firstCells, storeCells, loadCells, loadCellsFrom]
    unfold Oper.wp
    simp only [List.length_nil] at hx
    simp [execOp, ho, resolve, invoke, builtin, hs, hx, hrun, Result.andThen]
    exact h q 0 w (.inl rfl) (Below.refl _ _)
  · have hold : (Builtin.firstCells i.size 0 (.slice q 0 0)).run P w.drew = .ok ([] : List Value).toArray w.drew := by
      cases q <;> simp [Builtin.firstCells, loadCells, loadCellsFrom]
    have hrun := run_append_grow_src (P := P) w t t o.type e i z ht hi hz q 0 0 [] hold (.slice p news.length c) news.length news hS (by omega) (by omega)
      (growslice_fits (by omega) (by rw [hbytes, Nat.zero_add]; have := Nat.mul_le_mul hbig hby; omega))
    rw [Nat.zero_add] at hrun
    unfold Oper.wp
    simp [execOp, ho, resolve, invoke, builtin, hs, hx, hrun, Result.andThen]
    refine h _ _ _ (.inr ⟨w.heap.size, rfl, Nat.le_refl _, ?_⟩) (((Below.refl _ w).drew).alloc (Nat.le_refl _) _)
    refine ⟨(Builtin.zeroCells z.cells (grownCap w news.length 0 e - news.length)).toList, ?_⟩
    rw [show (news ++ (Builtin.zeroCells z.cells (grownCap w news.length 0 e - news.length)).toList).toArray = news.toArray ++ Builtin.zeroCells z.cells (grownCap w news.length 0 e - news.length) by apply Array.ext'; simp]
    exact heap_alloc_new w.drew _

theorem step_append_fresh {P : Program} {ops : Array Oper} {o : Oper} {a : Act} {w : World} {K : Act → World → Prop} {Q : Exit → Act → World → Prop} {E : Prop} (hgd : o.guard = none) (s x : Operand) (t : TypeId)
    (ho : o.op = .call { callee := .builtin .append, args := #[s, x], argTypes := #[t, t] })
    (e : TypeId) (z : Value) (bytes : Nat) (ht : P.underlying t = some (.slice e)) (hi : (P.info? e).map (fun i => (i.zero, i.size, i.bytes)) = some (some z, 1, bytes)) (hzc : z.cells = #[z])
    (q p : Option Addr) (m c : Nat) (news : List Value) (hs : a.eval s = .slice q 0 0) (hx : a.eval x = .slice p m c) (hl : news.length = m) (hsrc : Cells w p news) (h1 : ∀ u ∈ news, u.oneCell' = true) (hbig : m ≤ 1099511627776) (hby : bytes ≤ 128)
    (h : ∀ p' c' w', New w.heap.size w' p' e news → Below w.heap.size w w' → K (a.put o.dst (.slice p' m c')) w') :
    if Region.wanted o (yielded ops a.tmps) = true then Oper.wp P o a w K Q else E := by
  have hw : Region.wanted o (yielded ops a.tmps) = true := by simp [Region.wanted, hgd]
  rw [if_pos hw]
  exact wp_append_fresh s x t ho e z bytes ht hi hzc q p m c news hs hx hl hsrc h1 hbig hby h


theorem wp_fresh_int {o : Oper} {a : Act} {w : World} {K : Act → World → Prop} {Q : Exit → Act → World → Prop} (s x : Operand)
    (ho : o.op = .call { callee := .builtin .append, args := #[s, x], argTypes := #[49, 49] })
    (q p : Option Addr) (c : Nat) (xs : List Int) (hs : a.eval s = .slice q 0 0) (hx : a.eval x = .slice p xs.length c) (hsrc : Cells w p (xs.map (.int .i64))) (hbig : xs.length ≤ 1099511627776)
    (h : ∀ p' c' w', New w.heap.size w' p' 3 (xs.map (.int .i64)) → Below w.heap.size w w' → K (a.put o.dst (.slice p' xs.length c')) w') : Oper.wp Try.prog o a w K Q :=
  wp_append_fresh s x 49 ho 3 (.int .i64 0) 8 Try.underlying49 info_int rfl q p xs.length c (xs.map (.int .i64)) hs hx (by simp) hsrc int_cells hbig (by omega) h
theorem step_fresh_int {ops : Array Oper} {o : Oper} {a : Act} {w : World} {K : Act → World → Prop} {Q : Exit → Act → World → Prop} {E : Prop} (hgd : o.guard = none) (s x : Operand)
    (ho : o.op = .call { callee := .builtin .append, args := #[s, x], argTypes := #[49, 49] })
    (q p : Option Addr) (c : Nat) (xs : List Int) (hs : a.eval s = .slice q 0 0) (hx : a.eval x = .slice p xs.length c) (hsrc : Cells w p (xs.map (.int .i64))) (hbig : xs.length ≤ 1099511627776)
    (h : ∀ p' c' w', New w.heap.size w' p' 3 (xs.map (.int .i64)) → Below w.heap.size w w' → K (a.put o.dst (.slice p' xs.length c')) w') :
    if Region.wanted o (yielded ops a.tmps) = true then Oper.wp Try.prog o a w K Q else E :=
  step_append_fresh hgd s x 49 ho 3 (.int .i64 0) 8 Try.underlying49 info_int rfl q p xs.length c (xs.map (.int .i64)) hs hx (by simp) hsrc int_cells hbig (by omega) h
theorem wp_fresh_i64 {o : Oper} {a : Act} {w : World} {K : Act → World → Prop} {Q : Exit → Act → World → Prop} (s x : Operand)
    (ho : o.op = .call { callee := .builtin .append, args := #[s, x], argTypes := #[22, 22] })
    (q p : Option Addr) (c : Nat) (xs : List Int) (hs : a.eval s = .slice q 0 0) (hx : a.eval x = .slice p xs.length c) (hsrc : Cells w p (xs.map (.int .i64))) (hbig : xs.length ≤ 1099511627776)
    (h : ∀ p' c' w', New w.heap.size w' p' 2 (xs.map (.int .i64)) → Below w.heap.size w w' → K (a.put o.dst (.slice p' xs.length c')) w') : Oper.wp Try.prog o a w K Q :=
  wp_append_fresh s x 22 ho 2 (.int .i64 0) 8 Try.underlying22 info_i64 rfl q p xs.length c (xs.map (.int .i64)) hs hx (by simp) hsrc int_cells hbig (by omega) h
theorem step_fresh_i64 {ops : Array Oper} {o : Oper} {a : Act} {w : World} {K : Act → World → Prop} {Q : Exit → Act → World → Prop} {E : Prop} (hgd : o.guard = none) (s x : Operand)
    (ho : o.op = .call { callee := .builtin .append, args := #[s, x], argTypes := #[22, 22] })
    (q p : Option Addr) (c : Nat) (xs : List Int) (hs : a.eval s = .slice q 0 0) (hx : a.eval x = .slice p xs.length c) (hsrc : Cells w p (xs.map (.int .i64))) (hbig : xs.length ≤ 1099511627776)
    (h : ∀ p' c' w', New w.heap.size w' p' 2 (xs.map (.int .i64)) → Below w.heap.size w w' → K (a.put o.dst (.slice p' xs.length c')) w') :
    if Region.wanted o (yielded ops a.tmps) = true then Oper.wp Try.prog o a w K Q else E :=
  step_append_fresh hgd s x 22 ho 2 (.int .i64 0) 8 Try.underlying22 info_i64 rfl q p xs.length c (xs.map (.int .i64)) hs hx (by simp) hsrc int_cells hbig (by omega) h
end Go.Proofs.Ytjehgcmcphgofaa
