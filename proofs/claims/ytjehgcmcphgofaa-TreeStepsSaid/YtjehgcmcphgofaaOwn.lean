/- Rows that a call makes itself: what they hold, what a store makes of them, 'append' from whatever source, 'make'. No condition. -/
import Derived.Test.YtjehgcmcphgofaaBase
import Derived.Laws.AppendOwnNone
import Derived.WalkSpells
namespace Go.Proofs.Ytjehgcmcphgofaa
open Go.RowKit Go.Shelf

/-- block g is a row that may be written, whose first cells are vs -/
def Own (w : World) (g : Nat) (e : TypeId) (vs : List Value) : Prop := ∃ rest, w.heap[g]? = some (.cells (vs ++ rest).toArray e (0, 0))

theorem Own.lt {w : World} {g : Nat} {e : TypeId} {vs : List Value} (h : Own w g e vs) : g < w.heap.size := by
  obtain ⟨r, h⟩ := h
  exact (Array.getElem?_eq_some_iff.1 h).1
theorem Own.cell {w : World} {g : Nat} {e : TypeId} {vs : List Value} (h : Own w g e vs) {i : Nat} {u : Value} (hu : vs[i]? = some u) : w.cell? ⟨g, i, none⟩ = some u := by
  obtain ⟨r, h⟩ := h
  rw [cell_of_row _ _ _ _ _ _ h]
  have hi : i < vs.length := (List.getElem?_eq_some_iff.1 hu).1
  simpa [List.getElem?_append_left hi] using hu
theorem Own.frozen {w : World} {g : Nat} {e : TypeId} {vs : List Value} (h : Own w g e vs) (i : Nat) : w.frozen? ⟨g, i, none⟩ = false := by
  obtain ⟨r, h⟩ := h
  simp [World.frozen?, h]
theorem Own.keep {w w' : World} {g : Nat} {e : TypeId} {vs : List Value} {B : Nat} (h : Own w g e vs) (hb : Below B w w') (hg : g < B) : Own w' g e vs := by
  obtain ⟨r, h⟩ := h
  exact ⟨r, (hb.block g hg).trans h⟩
theorem Own.set {w : World} {g : Nat} {e : TypeId} {vs : List Value} (h : Own w g e vs) {i : Nat} (hi : i < vs.length) (v : Value) : Own (w.setCell ⟨g, i, none⟩ v) g e (vs.set i v) := by
  obtain ⟨r, h⟩ := h
  refine ⟨r, ?_⟩
  simp only [World.setCell, Array.getElem?_modify, if_true, h, Option.map_some]
  simp [List.set_append_left _ _ hi]
theorem Own.other {w : World} {g : Nat} {e : TypeId} {vs : List Value} (h : Own w g e vs) {a : Addr} (ha : a.block ≠ g) (v : Value) : Own (w.setCell a v) g e vs := by
  obtain ⟨r, h⟩ := h
  exact ⟨r, (Below.heap_setCell w a v g (fun e => ha e.symm)).trans h⟩
theorem Own.made (w : World) (b : Nat) (cs : List Value) (e : TypeId) (hb : b = w.heap.size) : Own (w.alloc (.cells cs.toArray e)) b e cs := by
  subst hb
  exact ⟨[], by rw [List.append_nil]; exact heap_alloc_new w _⟩
theorem Own.drew {w : World} {g : Nat} {e : TypeId} {vs : List Value} (h : Own w g e vs) (n : Nat) : Own (w.drewN n) g e vs := h
theorem Own.pre {w : World} {g : Nat} {e : TypeId} {vs us : List Value} (h : Own w g e (vs ++ us)) : Own w g e vs := by
  obtain ⟨r, h⟩ := h
  exact ⟨us ++ r, by rw [← List.append_assoc]; exact h⟩
theorem Own.grown {w w' : World} {g : Nat} {e : TypeId} {vs : List Value} {row : Option Nat} (h : Own w g e vs) (hg : w.grownBy w' row) (hr : some g ≠ row) : Own w' g e vs := by
  obtain ⟨r, h'⟩ := h
  exact ⟨r, (hg.block g (Array.getElem?_eq_some_iff.1 h').1 hr).trans h'⟩

/-- a new row: it lies in a block from B on (where it has cells at all) -/
def New (B : Nat) (w : World) (p : Option Addr) (e : TypeId) (vs : List Value) : Prop := vs = [] ∨ ∃ g, p = some ⟨g, 0, none⟩ ∧ B ≤ g ∧ Own w g e vs

theorem New.cells {B : Nat} {w : World} {p : Option Addr} {e : TypeId} {vs : List Value} (h : New B w p e vs) : Cells w p vs := by
  rcases h with h | ⟨g, hp, -, ho⟩
  · exact .inl h
  · exact .inr ⟨g, 0, hp, ho.lt, fun i u hu => by rw [Nat.zero_add]; exact ho.cell hu⟩
theorem New.keep {B B' : Nat} {w w' : World} {p : Option Addr} {e : TypeId} {vs : List Value} (h : New B w p e vs) (hb : Below B' w w') (hg : ∀ g, p = some ⟨g, 0, none⟩ → g < w.heap.size → g < B') : New B w' p e vs := by
  rcases h with h | ⟨g, hp, hB, ho⟩
  · exact .inl h
  · exact .inr ⟨g, hp, hB, ho.keep hb (hg g hp ho.lt)⟩
theorem New.keep' {B : Nat} {w w' : World} {p : Option Addr} {e : TypeId} {vs : List Value} (h : New B w p e vs) (hb : Below w.heap.size w w') : New B w' p e vs := h.keep hb fun _ _ h => h
theorem New.other {B : Nat} {w : World} {p : Option Addr} {e : TypeId} {vs : List Value} (h : New B w p e vs) {a : Addr} (ha : a.block < B) (v : Value) : New B (w.setCell a v) p e vs := by
  rcases h with h | ⟨g, hp, hg, ho⟩
  · exact .inl h
  · exact .inr ⟨g, hp, hg, ho.other (by omega) v⟩
theorem New.mono {B B' : Nat} {w : World} {p : Option Addr} {e : TypeId} {vs : List Value} (h : New B w p e vs) (hB : B' ≤ B) : New B' w p e vs := by
  rcases h with h | ⟨g, hp, hg, ho⟩
  · exact .inl h
  · exact .inr ⟨g, hp, by omega, ho⟩
theorem New.ints {B : Nat} {w : World} {p : Option Addr} {e : TypeId} {xs : List Int} (h : New B w p e (xs.map (.int .i64))) (hi : ∀ x ∈ xs, I64 x) (hs : xs.length ≤ 9223372036854775807) : Ints w p xs := ⟨h.cells, hi, hs⟩

theorem row_new {w : World} {B : Nat} {e : TypeId} {v : Value} {n : Nat} {xs : List Value} (h : w.ownsRow B e 1 v n xs) : ∃ p c, v = .slice p xs.length c ∧ New B w p e xs := by
  obtain ⟨h1, h2⟩ := h
  rw [Nat.mul_one] at h1
  subst h1
  rcases h2 with ⟨rfl, h0⟩ | ⟨g, cap, cur, rfl, hb, hg, -, -, -, ht⟩
  · have : xs = [] := List.eq_nil_of_length_eq_zero h0
    subst this
    exact ⟨none, 0, rfl, .inl rfl⟩
  · refine ⟨some ⟨g, 0, none⟩, cap, rfl, .inr ⟨g, rfl, hb, cur.toList.drop xs.length, ?_⟩⟩
    rw [hg]
    have e : xs ++ cur.toList.drop xs.length = cur.toList := by
      rw [Nat.mul_one] at ht
      conv => lhs; lhs; rw [← ht]
      exact List.take_append_drop _ _
    rw [e]

/-- 'append(own, src...)', src whatever slice: nil, empty or not -/
theorem wpList_append_src {P : Program} {w : World} {ops : Array Oper} {rest : List Oper} {o : Oper} {a : Act} {Q : Exit → Act → World → Prop} (hgd : o.guard = none) (s x : Operand) (t : TypeId)
    (ho : o.op = .call { callee := .builtin .append, args := #[s, x], argTypes := #[t, t] })
    (base : Nat) (e : TypeId) (z : Value) (size bytes : Nat) (ht : P.underlying t = some (.slice e)) (hi : (P.info? e).map (fun i => (i.zero, i.size, i.bytes)) = some (some z, size, bytes))
    (hzs : z.cells.size = size) (hsz : 0 < size)
    (v : Value) (n : Nat) (xs : List Value) (hs : a.eval s = v) (hown : w.ownsRow base e size v n xs)
    (p : Option Addr) (m c : Nat) (news : List Value) (hx : a.eval x = .slice p m c) (hl : news.length = m * size) (hsrc : Cells w p news) (h1 : ∀ u ∈ news, u.oneCell' = true)
    (hbig : n + m ≤ 1099511627776) (hby : bytes ≤ 128) (hbase : base ≤ w.heap.size)
    (h : ∀ v' w', w'.ownsRow base e size v' (n + m) (xs ++ news) → w.grownBy w' v.ownBlock → wpList P ops Q rest (a.put o.dst v') w') : wpList P ops Q (o :: rest) a w := by
  obtain ⟨i, hi, hz, hsize, hbytes⟩ := info_parts hi
  cases p with
  | none =>
    have hn : news = [] := by
      rcases hsrc with h' | ⟨b, off, hp, _⟩
      · exact h'
      · cases hp
    subst hn
    have hm : m = 0 := by
      simp only [List.length_nil] at hl
      rcases Nat.mul_eq_zero.1 hl.symm with h' | h'
      · exact h'
      · omega
    subst hm
    refine wpList_plain hgd fun K hK => ?_
    have hrun : (Builtin.append_ #[t, t] o.type #[v, .slice none 0 c]).run P w = .ok v w := by
      rcases hown.2 with ⟨rfl, rfl⟩ | ⟨g, cap, cur, rfl, _, _, hnc, _⟩
      · simp [Builtin.append_, run_underlying ht, sizeOf, typeInfo, hi, Builtin.lenOf, Builtin.firstCells]
      · simp [Builtin.append_, run_underlying ht, sizeOf, typeInfo, hi, Builtin.lenOf, Builtin.firstCells, hnc, storeCells]
    unfold Oper.wp
    simp [execOp, ho, resolve, invoke, builtin, hs, hx, hrun, Result.andThen]
    refine hK _ _ (h v w ?_ ⟨rfl, rfl, rfl, Nat.le_refl _, fun _ _ _ => rfl⟩)
    simpa using hown
  | some ad =>
    refine wpList_append_own w hgd s x t ho base e i z size bytes ht hi hz hsize hbytes hzs hsz v n xs hs hown ad m c news hx hl ?_ h1 (by unfold maxLen; omega) ?_ hbase fun v' w' h2 h3 _ => h v' w' h2 h3
    · intro j u hu
      rcases hsrc with h' | ⟨b, off, hp, _, hc⟩
      · subst h'
        simp at hu
      · cases hp
        rw [Addr.add_lit]
        exact hc j u hu
    · have := Nat.mul_le_mul hbig hby
      omega

theorem int_cells {ys : List Int} : ∀ u ∈ ys.map (Value.int .i64), u.oneCell' = true := by
  intro u hu
  obtain ⟨y, -, rfl⟩ := List.mem_map.1 hu
  rfl

theorem info_int : (Try.prog.info? 3).map (fun i => (i.zero, i.size, i.bytes)) = some (some (.int .i64 0), 1, 8) := by kernel_rfl
theorem info_ints : (Try.prog.info? 49).map (fun i => (i.zero, i.size, i.bytes)) = some (some (.slice none 0 0), 1, 24) := by kernel_rfl

/-- 'append(own, ys...)' at []int -/
theorem append_ints {w : World} {ops : Array Oper} {rest : List Oper} {o : Oper} {a : Act} {Q : Exit → Act → World → Prop} (hgd : o.guard = none) (s x : Operand)
    (ho : o.op = .call { callee := .builtin .append, args := #[s, x], argTypes := #[49, 49] })
    (base : Nat) (v : Value) (n : Nat) (xs : List Value) (hs : a.eval s = v) (hown : w.ownsRow base 3 1 v n xs)
    (p : Option Addr) (c : Nat) (ys : List Int) (hx : a.eval x = .slice p ys.length c) (hsrc : Cells w p (ys.map (.int .i64)))
    (hbig : n + ys.length ≤ 1099511627776) (hbase : base ≤ w.heap.size)
    (h : ∀ v' w', w'.ownsRow base 3 1 v' (n + ys.length) (xs ++ ys.map (.int .i64)) → w.grownBy w' v.ownBlock → wpList Try.prog ops Q rest (a.put o.dst v') w') : wpList Try.prog ops Q (o :: rest) a w :=
  wpList_append_src hgd s x 49 ho base 3 (.int .i64 0) 1 8 Try.underlying49 info_int rfl (by decide) v n xs hs hown p ys.length c _ hx (by simp) hsrc int_cells hbig (by omega) hbase h

/-- 'make([]int, n)' -/
theorem make_ints {w : World} {ops : Array Oper} {rest : List Oper} {o : Oper} {a : Act} {Q : Exit → Act → World → Prop} (hg : o.guard = none) (l c : Operand)
    (hop : o.op = Op.makeSlice 49 l c) (n : Nat) (hl : a.eval l = .int .i64 n) (hc : a.eval c = .int .i64 n) (hn : n ≤ 1099511627776)
    (hK : ∀ w', Own w' w.heap.size 3 ((List.replicate n (0 : Int)).map (.int .i64)) → w.grownBy w' none → wpList Try.prog ops Q rest (a.put o.dst (.slice (some ⟨w.heap.size, 0, none⟩) n n)) w') :
    wpList Try.prog ops Q (o :: rest) a w := by
  obtain ⟨i, hi, hz, hsize, hbytes⟩ := info_parts info_int
  refine wpList_make_full w hg l c 49 hop w.heap.size 3 i (.int .i64 0) 1 Try.underlying49 hi hz hsize .i64 .i64 _ _ n hl hc rfl rfl (by rw [hbytes]; omega) (by unfold maxLen; omega) (Nat.le_refl _) ?_
  intro w' hown hgr
  refine hK w' ?_ hgr
  rw [Nat.mul_one, show (Value.int .i64 0).cells = #[.int .i64 0] from rfl, toList_madeCells_one] at hown
  rcases hown.2 with ⟨h, _⟩ | ⟨g, cap, cur, h, -, hg', -, -, hcs, ht⟩
  · cases h
  · cases h
    refine ⟨[], ?_⟩
    rw [List.map_replicate, List.append_nil, ← ht, List.take_of_length_le (by simp [hcs])]
    exact hg'

theorem info_i64 : (Try.prog.info? 2).map (fun i => (i.zero, i.size, i.bytes)) = some (some (.int .i64 0), 1, 8) := by kernel_rfl
/-- 'make([]int64, n)' -/
theorem make_i64s {w : World} {ops : Array Oper} {rest : List Oper} {o : Oper} {a : Act} {Q : Exit → Act → World → Prop} (hg : o.guard = none) (l c : Operand)
    (hop : o.op = Op.makeSlice 22 l c) (n : Nat) (hl : a.eval l = .int .i64 n) (hc : a.eval c = .int .i64 n) (hn : n ≤ 1099511627776)
    (hK : ∀ w', Own w' w.heap.size 2 ((List.replicate n (0 : Int)).map (.int .i64)) → w.grownBy w' none → wpList Try.prog ops Q rest (a.put o.dst (.slice (some ⟨w.heap.size, 0, none⟩) n n)) w') :
    wpList Try.prog ops Q (o :: rest) a w := by
  obtain ⟨i, hi, hz, hsize, hbytes⟩ := info_parts info_i64
  refine wpList_make_full w hg l c 22 hop w.heap.size 2 i (.int .i64 0) 1 Try.underlying22 hi hz hsize .i64 .i64 _ _ n hl hc rfl rfl (by rw [hbytes]; omega) (by unfold maxLen; omega) (Nat.le_refl _) ?_
  intro w' hown hgr
  refine hK w' ?_ hgr
  rw [Nat.mul_one, show (Value.int .i64 0).cells = #[.int .i64 0] from rfl, toList_madeCells_one] at hown
  rcases hown.2 with ⟨h, _⟩ | ⟨g, cap, cur, h, -, hg', -, -, hcs, ht⟩
  · cases h
  · cases h
    refine ⟨[], ?_⟩
    rw [List.map_replicate, List.append_nil, ← ht, List.take_of_length_le (by simp [hcs])]
    exact hg'

end Go.Proofs.Ytjehgcmcphgofaa
