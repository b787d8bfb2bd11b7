/- Trees whose blocks are known; sameness as a relation; slices.Clone at []int64. No condition beyond what each says. -/
import Derived.Test.YtjehgcmcphgofaaTr25
namespace Go.Proofs.Ytjehgcmcphgofaa
open Go.RowKit Go.Shelf
set_option linter.unusedVariables false
set_option linter.unusedSimpArgs false

theorem sameT_iff {d : TD} {kids : Nat → TV} {e : TD} {kids' : Nat → TV} : sameT (.mk d kids) (.mk e kids') = true ↔
    (d.kind = e.kind ∧ d.fn = e.fn ∧ d.axis = e.axis ∧ d.name = e.name) ∧ d.nums = e.nums ∧ d.n = e.n ∧ ∀ i, i < d.n → sameT (kids i) (kids' i) = true := by
  rw [sameT_mk]
  simp [headB, eqS, everyTo_iff]
theorem sameT_symm : ∀ {t u : TV}, sameT t u = true → sameT u t = true
  | .nil, .nil, h => h
  | .nil, .mk _ _, h => by cases h
  | .mk _ _, .nil, h => by cases h
  | .mk d kids, .mk e kids', h => by
    obtain ⟨⟨h1, h2, h3, h4⟩, h5, h6, h7⟩ := sameT_iff.1 h
    exact sameT_iff.2 ⟨⟨h1.symm, h2.symm, h3.symm, h4.symm⟩, h5.symm, h6.symm, fun i hi => sameT_symm (h7 i (by omega))⟩
theorem sameT_trans : ∀ {t u v : TV}, sameT t u = true → sameT u v = true → sameT t v = true
  | .nil, .nil, _, _, k => k
  | .nil, .mk _ _, _, h, _ => by cases h
  | .mk _ _, .nil, _, h, _ => by cases h
  | .mk _ _, .mk _ _, .nil, _, k => by cases k
  | .mk d kids, .mk e kids', .mk f kids'', h, k => by
    obtain ⟨⟨h1, h2, h3, h4⟩, h5, h6, h7⟩ := sameT_iff.1 h
    obtain ⟨⟨k1, k2, k3, k4⟩, k5, k6, k7⟩ := sameT_iff.1 k
    exact sameT_iff.2 ⟨⟨h1.trans k1, h2.trans k2, h3.trans k3, h4.trans k4⟩, h5.trans k5, h6.trans k6, fun i hi => sameT_trans (h7 i hi) (k7 i (by omega))⟩
theorem sumTo_congr {f g : Nat → Nat} : ∀ {n : Nat}, (∀ i, i < n → f i = g i) → sumTo n f = sumTo n g
  | 0, _ => rfl
  | n + 1, h => by rw [sumTo, sumTo, sumTo_congr fun i hi => h i (by omega), h n (by omega)]
theorem sameT_size : ∀ {t u : TV}, sameT t u = true → sizeT t = sizeT u
  | .nil, .nil, _ => rfl
  | .nil, .mk _ _, h => by cases h
  | .mk _ _, .nil, h => by cases h
  | .mk d kids, .mk e kids', h => by
    obtain ⟨-, -, h6, h7⟩ := sameT_iff.1 h
    simp only [sizeT]
    rw [← h6, sumTo_congr fun i hi => sameT_size (h7 i hi)]
theorem sameT_nums : ∀ {t u : TV}, sameT t u = true → numsT t = numsT u
  | .nil, .nil, _ => rfl
  | .nil, .mk _ _, h => by cases h
  | .mk _ _, .nil, h => by cases h
  | .mk d kids, .mk e kids', h => by
    obtain ⟨-, h5, h6, h7⟩ := sameT_iff.1 h
    simp only [numsT]
    rw [← h6, ← h5, sumTo_congr fun i hi => sameT_nums (h7 i hi)]
/-- a tree of the program's own, in blocks of S -/
def TreeS (S : Nat → Prop) (w : World) : TV → Prop
  | .nil => False
  | .mk d kids => (d.nums = [] ∨ ∃ g, d.np = some ⟨g, 0, none⟩ ∧ S g ∧ Own w g 2 (d.nums.map (.int .i64))) ∧ ((∀ x ∈ d.nums, I64 x) ∧ d.nums.length ≤ 1000000 ∧ d.n ≤ 1000000) ∧
      (d.n = 0 ∨ ∃ g, d.kp = some ⟨g, 0, none⟩ ∧ S g ∧ Own w g 25 (flatT ((List.range d.n).map kids))) ∧ ∀ i, i < d.n → TreeS S w (kids i)
theorem TreeS.keep {S : Nat → Prop} {w w' : World} (hk : ∀ k, S k → k < w.heap.size → w'.heap[k]? = w.heap[k]?) : ∀ {t : TV}, TreeS S w t → TreeS S w' t
  | .nil, h => False.elim h
  | .mk d kids, ⟨h1, h2, h3, h4⟩ => by
    refine ⟨?_, h2, ?_, fun i hi => TreeS.keep hk (h4 i hi)⟩
    · rcases h1 with h | ⟨g, hp, hg, ho⟩
      · exact .inl h
      · exact .inr ⟨g, hp, hg, ho.block (hk g hg ho.lt)⟩
    · rcases h3 with h | ⟨g, hp, hg, ho⟩
      · exact .inl h
      · exact .inr ⟨g, hp, hg, ho.block (hk g hg ho.lt)⟩
theorem TreeS.mono {S S' : Nat → Prop} {w : World} (hk : ∀ k, S k → k < w.heap.size → S' k) : ∀ {t : TV}, TreeS S w t → TreeS S' w t
  | .nil, h => False.elim h
  | .mk d kids, ⟨h1, h2, h3, h4⟩ => by
    refine ⟨?_, h2, ?_, fun i hi => TreeS.mono hk (h4 i hi)⟩
    · rcases h1 with h | ⟨g, hp, hg, ho⟩
      · exact .inl h
      · exact .inr ⟨g, hp, hk g hg ho.lt, ho⟩
    · rcases h3 with h | ⟨g, hp, hg, ho⟩
      · exact .inl h
      · exact .inr ⟨g, hp, hk g hg ho.lt, ho⟩
theorem kids_get {n : Nat} {kids : Nat → TV} {i : Nat} (hi : i < n) : ((List.range n).map kids)[i]? = some (kids i) := by
  rw [List.getElem?_map, List.getElem?_range hi]
  rfl
theorem TreeS.tree {S : Nat → Prop} {w : World} : ∀ {t : TV}, TreeS S w t → TreeIn w t
  | .nil, h => False.elim h
  | .mk d kids, ⟨h1, ⟨h64, hl, hn⟩, h3, h4⟩ => by
    refine ⟨⟨?_, h64, by omega⟩, by omega, fun h0 => ?_, fun i hi => (h4 i hi).tree⟩
    · rcases h1 with h | ⟨g, hp, hg, ho⟩
      · exact .inl (by rw [h]; rfl)
      · exact New.cells (B := 0) (.inr ⟨g, hp, Nat.zero_le _, ho⟩)
    · rcases h3 with h | ⟨g, hp, hg, ho⟩
      · omega
      · refine ⟨g, 0, hp, ho.lt, fun i hi => ?_⟩
        have hc : ∀ j u, j < 6 → (cellsT (kids i).d)[j]? = some u → w.cell? ⟨g, 0 + i * 6 + j, none⟩ = some u := fun j u hj hu => by
          rw [Nat.zero_add]
          exact ho.cell ((flatT_get (kids_get hi) hj).trans hu)
        exact ⟨hc 0 _ (by omega) rfl, hc 1 _ (by omega) rfl, hc 2 _ (by omega) rfl, hc 3 _ (by omega) rfl, hc 4 _ (by omega) rfl, hc 5 _ (by omega) rfl⟩
theorem append_i64s {w : World} {ops : Array Oper} {rest : List Oper} {o : Oper} {a : Act} {Q : Exit → Act → World → Prop} (hgd : o.guard = none) (s x : Operand)
    (ho : o.op = .call { callee := .builtin .append, args := #[s, x], argTypes := #[22, 22] })
    (base : Nat) (v : Value) (n : Nat) (xs : List Value) (hs : a.eval s = v) (hown : w.ownsRow base 2 1 v n xs)
    (p : Option Addr) (c : Nat) (ys : List Int) (hx : a.eval x = .slice p ys.length c) (hsrc : Cells w p (ys.map (.int .i64)))
    (hbig : n + ys.length ≤ 1099511627776) (hbase : base ≤ w.heap.size)
    (h : ∀ v' w', w'.ownsRow base 2 1 v' (n + ys.length) (xs ++ ys.map (.int .i64)) → w.grownBy w' v.ownBlock → wpList Try.prog ops Q rest (a.put o.dst v') w') : wpList Try.prog ops Q (o :: rest) a w :=
  wpList_append_src hgd s x 22 ho base 2 (.int .i64 0) 1 8 Try.underlying22 info_i64 rfl (by decide) v n xs hs hown p ys.length c _ hx (by simp) hsrc int_cells hbig (by omega) hbase h
theorem Clone64_any (a : Option Addr) (c : Nat) (xs : List Int) (w : World) (h : Ints w a xs) (hl : xs.length ≤ 1000000) :
    Calls Try.prog 39 #[.slice a xs.length c] w fun e w' => (∃ p c', e = .returned (.slice p xs.length c') ∧ New w.heap.size w' p 2 (xs.map (.int .i64))) ∧ Below w.heap.size w w' := by
  have heq := fun w n c => Lib.run_eql_slice_nil (P := Try.prog) w 22 2 a n c 0 0 Try.underlying22
  cases a with
  | none =>
    have hx : xs = [] := by
      rcases h.cells with h' | ⟨b, off, hp, _⟩
      · simpa using h'
      · cases hp
    subst hx
    go_enter Try.func39, Try.ntmps39
    go_wp2
    go_ret
    exact ⟨⟨none, 0, rfl, .inl rfl⟩, Below.refl _ _⟩
  | some ad =>
    go_enter Try.func39, Try.ntmps39
    go_wp2_with (at_builtin; refine append_i64s rfl _ _ rfl w.heap.size _ 0 [] rfl (World.ownsRow_lit w #[] 0 (Nat.le_refl _) (by decide) rfl) (some ad) c xs rfl ((h.cells.keep ((Below.refl _ _).alloc (Nat.le_refl _) _))) (by omega) (by simp) ?_; intro v' w1 hown hg)
    obtain ⟨p, c', rfl, hnew⟩ := row_new hown
    go_wp2
    go_ret
    refine ⟨⟨p, c', ?_, ?_⟩, ?_⟩
    · simp
    · simpa using hnew
    · exact ((Below.refl _ w).alloc (Nat.le_refl _) _).grown hg (by simp) (fun k hk => by cases hk; exact Nat.le_refl _)
end Go.Proofs.Ytjehgcmcphgofaa
