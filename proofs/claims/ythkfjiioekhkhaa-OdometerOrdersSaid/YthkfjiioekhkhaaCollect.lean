/- collect: all indices of a range, out of the iterator. No condition beyond what each says. -/
import Derived.Test.YthkfjiioekhkhaaIter3
import Derived.Maps.AppendAt
namespace Go.Proofs.Ythkfjiioekhkhaa
open Go.RowKit Go.Shelf
set_option linter.unusedVariables false
set_option linter.unusedSimpArgs false
attribute [local go_sem] Oper.semAt_some

/-- what is held between two rounds: the box X, the rows that have come -/
structure ColI (w : World) (X N : Nat) (b : Option Nat) (pre : List RowV) (W : World) (v : Value) (Bs : Nat) : Prop where
  box : Own W X 25 [v]
  row : W.ownsRow Bs 22 1 v pre.length (pre.map RowV.cell)
  rows : Rows6 Bs W pre
  below : Below w.heap.size w W
  hb : ∀ g, b = some g → N ≤ g ∧ g < Bs
  hX : w.heap.size ≤ X ∧ X < N
  hN : N ≤ Bs
  hz : Bs ≤ W.heap.size
theorem Own.cells_at {W : World} {g : Nat} {e : TypeId} {vs : List Value} (h : Own W g e vs) {o : Obj} (ho : W.heap[g]? = some o) : o.isCells = true := by
  obtain ⟨r, h'⟩ := h
  rw [h'] at ho
  cases ho
  rfl
theorem New.block {B : Nat} {W Z : World} {p : Option Addr} {e : TypeId} {vs : List Value} (h : New B W p e vs) (hk : ∀ g, B ≤ g → Own W g e vs → Z.heap[g]? = W.heap[g]?) : New B Z p e vs := by
  rcases h with h | ⟨g, hp, hg, ho⟩
  · exact .inl h
  · exact .inr ⟨g, hp, hg, ho.block (hk g hg ho)⟩
theorem row_cells {W : World} {B size n : Nat} {e : TypeId} {v : Value} {xs : List Value} (h : W.ownsRow B e size v n xs) {j : Nat} (hj : v.ownBlock = some j) : B ≤ j ∧ ∀ o : Obj, W.heap[j]? = some o → o.isCells = true := by
  refine ⟨(row_lt h hj).1, fun o ho => ?_⟩
  rcases h.2 with ⟨rfl, _⟩ | ⟨g, cap, cur, rfl, _, hgb, _⟩
  · cases hj
  · cases hj
    rw [hgb] at ho
    cases ho
    rfl
theorem ColI.turn {w : World} {X N : Nat} {b : Option Nat} {pre : List RowV} {A B : World} {v : Value} {Bs : Nat} {row : Option Nat} (h : ColI w X N b pre A v Bs) (hg : A.grownBy B row)
    (hr : ∀ r, row = some r → N ≤ r ∧ (b = some r ∨ ∃ o : Obj, A.heap[r]? = some o ∧ o.isCells = false)) : ColI w X N b pre B v Bs := by
  have hX := h.hX
  have key : ∀ j, Bs ≤ j → (∀ o : Obj, A.heap[j]? = some o → o.isCells = true) → some j ≠ row := by
    intro j hj hc e
    obtain ⟨-, h2 | ⟨o, ho, h2⟩⟩ := hr j e.symm
    · have := h.hb j h2
      omega
    · rw [hc o ho] at h2
      cases h2
  refine ⟨h.box.block (hg.block _ h.box.lt fun e => ?_), ?_, ⟨fun x hx => (h.rows.new x hx).block fun g hg' ho => hg.block g ho.lt (key g hg' fun o ho' => ho.cells_at ho'), h.rows.apart⟩, h.below.grown hg h.below.size (fun k e => by have := (hr k e).1; omega), h.hb, h.hX, h.hN, Nat.le_trans h.hz hg.size⟩
  · have := (hr _ e.symm).1
    omega
  · refine row_block' h.row fun j hj => hg.block j (row_lt h.row hj).2 ?_
    obtain ⟨h1, h2⟩ := row_cells h.row hj
    exact key j h1 h2
theorem ColI.next {w : World} {X N : Nat} {b : Option Nat} {pre : List RowV} {A W z : World} {v v' : Value} {Bs : Nat} {x : RowV} {o : Obj} (h : ColI w X N b pre A v Bs) (hW : ColI w X N b pre W v Bs) (hAW : A.heap.size ≤ W.heap.size)
    (hnew : New A.heap.size W x.p 3 (x.v.map (.int .i64))) (hg : (W.alloc o).grownBy z v.ownBlock) (hrow : z.ownsRow Bs 22 1 v' (pre.length + 1) (pre.map RowV.cell ++ [x.cell])) :
    Own z X 25 [v] ∧ ColI w X N b (pre ++ [x]) (z.setCell ⟨X, 0, none⟩ v') v' Bs ∧ KeepsFrom N W (z.setCell ⟨X, 0, none⟩ v') ∧ ∀ n1, X < n1 → KpR n1 N b W (z.setCell ⟨X, 0, none⟩ v') := by
  have hX := hW.hX
  have hN := hW.hN
  have hrow0 := row_block' hW.row fun j hj => (below_alloc W o).block j (row_lt hW.row hj).2
  have hXv : some X ≠ v.ownBlock := fun e => by have := (row_lt hW.row e.symm).1; omega
  have hbz : Own z X 25 [v] := (hW.box.keep (below_alloc W o) hW.box.lt).grown hg hXv
  have hsz : (W.alloc o).heap.size ≤ z.heap.size := hg.size
  have hwz : W.heap.size ≤ z.heap.size := by simp at hsz; omega
  have hsc : (z.setCell ⟨X, 0, none⟩ v').heap.size = z.heap.size := by unfold World.setCell; simp only [Array.size_modify]
  have same : ∀ k, k < W.heap.size → some k ≠ v.ownBlock → k ≠ X → (z.setCell ⟨X, 0, none⟩ v').heap[k]? = W.heap[k]? := fun k hk h1 h2 =>
    (Below.heap_setCell z ⟨X, 0, none⟩ v' k h2).trans ((hg.block k (by simp; omega) h1).trans (Below.heap_alloc W o k hk))
  refine ⟨hbz, ⟨hbz.set (i := 0) (by simp) v', ?_, ?_, ?_, hW.hb, hW.hX, hW.hN, by rw [hsc]; have := hW.hz; omega⟩, ⟨by rw [hsc]; exact hwz, ?_⟩, fun n1 hn1 => ⟨by rw [hsc]; exact hwz, ?_⟩⟩
  · rw [List.length_append, List.map_append]
    exact row_block' hrow fun j hj => Below.heap_setCell z ⟨X, 0, none⟩ v' j (by have := (row_lt hrow hj).1; show j ≠ X; omega)
  · refine Rows6.snoc (B' := A.heap.size) ?_ h.hz ?_ ?_
    · exact ⟨fun y hy => (((hW.rows.new y hy).keep' (below_alloc W o)).grownR hrow0 hg).other (a := ⟨X, 0, none⟩) (by show X < Bs; omega) v', h.rows.apart⟩
    · intro y hy g hp hne
      rcases h.rows.new y hy with h' | ⟨g', hp', -, ho⟩
      · exact (hne (by simpa using h')).elim
      · rw [hp] at hp'
        cases hp'
        exact ho.lt
    · exact ((hnew.keep' (below_alloc W o)).grownR hrow0 hg).other (a := ⟨X, 0, none⟩) (by show X < A.heap.size; have := h.hz; omega) v'
  · exact below_set ((hW.below.alloc hW.below.size o).grown hg (by have := hW.below.size; simp; omega) fun j hj => by have := (row_lt hW.row hj).1; omega) hX.1 0 _
  · intro k ob hk h1 h2
    refine (same k (Array.getElem?_eq_some_iff.1 h1).1 (fun e => ?_) (by omega)).trans h1
    have := (row_cells hW.row e.symm).2 ob h1
    rw [h2] at this
    cases this
  · intro k hk hlt
    refine same k hlt (fun e => ?_) ?_
    · have h1 := (row_lt hW.row e.symm).1
      rcases hk with hk | hk
      · omega
      · have := (hW.hb k hk).2
        omega
    · rcases hk with hk | hk
      · omega
      · have := (hW.hb k hk).1
        omega
theorem und_seq : Try.prog.underlying 30 = some (.func #[37] #[] false) := by kernel_rfl
theorem run_eql_seq (w : World) (fn : Fn) (fs lb : Array Value) : (binOp .eql 30 (.func fn fs lb) .nilFunc).run Try.prog w = .ok (.bool false) w := by
  have h := und_seq
  have h1 : ∀ d : Nat, (Op.equalIn (d + 1) 30 (.func fn fs lb) .nilFunc).run Try.prog w = .ok false w := fun d => by
    simp [Op.equalIn, run_underlying h]
  simp only [binOp]
  simp [Op.equal, Op.maxDepth, h1 9999]

set_option maxRecDepth 100000 in
set_option maxHeartbeats 4000000 in
theorem Collect_any (p q : Option Addr) (c f : Nat) (lo hi : List Int) (hO : OdoOk lo hi) (L : List (List Int)) (hL : betX lo hi = L) (hN : L.length ≤ 1000000) (n m : Nat) (hn : lo.length = n) (hm : hi.length = m) (w : World) (h : Ints w p lo) (h' : Ints w q hi) :
    Calls Try.prog 16 #[.slice p n c, .slice q m f] w (RowsRet L w) := by
  have hsn := hO.small
  have hsm := hO.len
  subst hn hm
  have HO := Lib.hid hO
  have HL := Lib.hid hL
  have HN := Lib.hid hN
  have h1 := h.keep (below_alloc w (.cells #[.slice none 0 0] 25))
  have h2 := h'.keep (below_alloc w (.cells #[.slice none 0 0] 25))
  have HSN : Hid (lo.length ≤ 1000000 ∧ hi.length ≤ 1000000) := ⟨hsn, by omega⟩
  clear hO hL hN h h' hsn hsm
  refine (callsIn_wide (n := 4)).1 ?_
  refine callsIn_of_wp_marks Try.func16 rfl trivial ?_ rfl
  simp only [Try.ntmps16, List.size_toArray, List.length_cons, List.length_nil, Nat.reduceAdd, Nat.reduceSub, Array.replicate_succ, Array.replicate_zero, List.push_toArray, List.append_toArray, List.nil_append, List.cons_append]
  gi_wp2
  refine ⟨trivial, (callsIn_wide.2 (Between_any p q c f lo hi lo.length hi.length rfl rfl HSN.out.1 HSN.out.2 _ h1 h2)).mono ?_⟩
  rintro e1 w1 ⟨rfl, ⟨p1, p2, c1, c2, hR⟩, hb1⟩
  have hz : (w.alloc (.cells #[.slice none 0 0] 25)).heap.size = w.heap.size + 1 := by simp
  rw [hz] at hR
  have HR := Lib.hid hR
  clear hR hz
  have heq := run_eql_seq
  have o1 : Own w1 w.heap.size 25 [.slice none 0 0] := (Own.made w _ [_] _ rfl).keep hb1 (by simp)
  have hbw := below_t (below_alloc w _) hb1
  have hs1 : w.heap.size + 1 ≤ w1.heap.size := by have := hb1.size; simpa using this
  clear h1 h2 hb1
  gi_wp2
  refine wpIn_rangeFunc_odo (by omega) HO.out L HL.out HR.out rfl rfl
    (fun b pre W => ∃ v Bs, ColI w w.heap.size w1.heap.size b pre W v Bs) (fun _ _ _ _ => False) ?_ (fun _ _ _ _ _ _ hs _ _ => hs) ?_ ?a1 ?assign ?body ?done ?stop
  case assign =>
    intro l x W K hK
    gi_wp2
    exact hK
  · rintro b s A B row ⟨v, Bs, hc⟩ hg hr
    exact ⟨v, Bs, hc.turn hg hr⟩
  · rintro b A hb hg
    exact ⟨.slice none 0 0, A.heap.size, o1.block (hg.block _ o1.lt (by simp)), World.ownsRow_nil _ _ _ _, Rows6.nil _ _, hbw.grown hg hbw.size (fun k e => by cases e), hb, ⟨Nat.le_refl _, by omega⟩, hg.size, Nat.le_refl _⟩
  case body =>
    rintro l b pre x A W hb ⟨v, Bs, hc⟩ hAW ⟨hl1, hl2, hl3, o, ho1, ho2⟩ hmap hlen hnew
    have hcW := hc.turn hAW (fun r e => by cases e; exact ⟨hl1, .inr ⟨o, ho1, ho2⟩⟩)
    have hsAW := hAW.size
    have HCA := Lib.hid hc
    have HCW := Lib.hid hcW
    have HNW := Lib.hid hnew
    have hcell := hcW.box.cell (i := 0) rfl
    have hrow := hcW.row
    have hzW := hcW.hz
    have hpl : pre.length ≤ 1000000 := by have := HN.out; omega
    have hxc : x.cell = .slice x.p x.v.length x.c := rfl
    obtain ⟨i0, hi0, hz0, hz1, hz2⟩ := info_parts info_ints
    clear hc hcW hmap hlen hnew hAW ho1 ho2 hb
    rw [hxc]
    gi_wp2_with (gi_at_builtin; refine wpListIn_append_own _ rfl _ _ 25 rfl Bs 22 i0 (.slice none 0 0) 1 24 Try.underlying25 hi0 hz0 hz1 hz2 rfl (by decide) _ _ _ rfl (hrow.alloc _) ⟨W.heap.size, 0, none⟩ 1 1 [.slice x.p x.v.length x.c] rfl rfl (cell_one_new _ _ _) (by simp [Value.oneCell']) (by unfold maxLen; omega) (by omega) (by simp; omega) ?_; intro v' z hown' hgrow _; obtain ⟨g', cap', rfl⟩ := ownsRow_succ hown'; have HNX := Lib.hid (ColI.next HCA.out HCW.out hsAW HNW.out hgrow hown'); have hcz := HNX.out.1.cell (i := 0) rfl; have hfz := HNX.out.1.frozen 0)
    exact ⟨HNX.out.2.2.1, HNX.out.2.2.2 _ (Nat.lt_succ_self _), _, _, HNX.out.2.1⟩
  case done =>
    rintro D b xs W hD hmap ⟨v, Bs, hc⟩ hK
    have hcell := hc.box.cell (i := 0) rfl
    have hc2 := hc.turn (grownBy_putObj' W D (.deferred none)) (fun r e => by cases e; exact ⟨hD, .inr ⟨_, hK, rfl⟩⟩)
    obtain ⟨p6, c6, rfl, hn6⟩ := row_new hc2.row
    rw [List.length_map] at hcell
    have HC2 := Lib.hid hc2
    have HN6 := Lib.hid hn6
    have HMAP := Lib.hid hmap
    clear hc hc2 hn6 hmap
    gi_wp2
    refine ⟨by simp, .inl ⟨_, _, rfl, run_takeDeferred hK, ?_⟩⟩
    refine ⟨_, results_tmp rfl _ _ _, ⟨p6, c6, xs, rfl, ⟨HN6.out.mono ?_, ⟨fun r hr => (HC2.out.rows.new r hr).mono ?_, HC2.out.rows.apart⟩⟩, HMAP.out⟩, HC2.out.below⟩
    all_goals (have := HC2.out.hX; have := HC2.out.hN; omega)
  case stop =>
    rintro D c b pre W _ _ _ hf _
    exact hf.elim
end Go.Proofs.Ythkfjiioekhkhaa
