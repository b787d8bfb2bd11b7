/- OdometerShapes, walked. No condition. -/
import Derived.Test.YthkfjiioekhkhaaSmall04
import Derived.Test.YthkfjiioekhkhaaRound
namespace Go.Proofs.Ythkfjiioekhkhaa
open Go.RowKit Go.Shelf
set_option linter.unusedVariables false
set_option linter.unusedSimpArgs false
attribute [local go_sem] Oper.semAt_some

theorem RefCells_b (s : List Int) (n : Int) (hn : cellsS s = n) (a : Option Addr) (c : Nat) (w : World) (h : Ints w a s) :
    Calls Try.prog 23 #[.slice a s.length c] w fun e w' => e = .returned (.int .i64 n) ∧ Below w.heap.size w w' :=
  (RefCells_is s n hn a c w h).mono fun e w' ⟨he, hw⟩ => ⟨he, hw ▸ Below.refl _ _⟩
theorem RefSmall_b (s : List Int) (b : Bool) (hb : smallS s = b) (p : Option Addr) (c : Nat) (w : World) (h : Ints w p s) :
    Calls Try.prog 20 #[.slice p s.length c, .int .i64 300] w fun e w' => e = .returned (.bool b) ∧ Below w.heap.size w w' :=
  (RefSmall2_is s b hb p c w h).mono fun e w' ⟨he, hw⟩ => ⟨he, hw ▸ Below.refl _ _⟩

set_option maxRecDepth 100000 in
set_option maxHeartbeats 4000000 in
theorem OdometerShapes_law (p : Option Addr) (c : Nat) (s : List Int) (w : World) (h : Ints w p s) :
    Calls Try.prog 4 #[.slice p s.length c] w fun e w' => e = .returned (.bool true) ∧ Below w.heap.size w w' := by
  have hsm := h.small
  obtain ⟨b, hb⟩ : ∃ b, smallS s = b := ⟨_, rfl⟩
  have HB := Lib.hid hb
  clear hb
  obtain ⟨W, hW⟩ : ∃ W, (w.alloc (.cells #[.slice p s.length c] 22)).alloc (.cells #[.bool false] 4) = W := ⟨_, rfl⟩
  have o2 : Own W (w.heap.size + 1) 4 [.bool false] := by rw [← hW]; exact Own.made _ _ [_] _ (by simp)
  have o1 : Own W w.heap.size 22 [.slice p s.length c] := by rw [← hW]; exact (Own.made w _ [_] _ rfl).keep (below_alloc _ _) (by simp)
  have hbw : Below w.heap.size w W := by rw [← hW]; exact below_t (below_alloc _ _) (below_alloc _ _)
  have hWs : W.heap.size = w.heap.size + 2 := by rw [← hW]; simp
  have HW := Lib.hid hW
  have hs0 := h.keep hbw
  clear hW
  refine (callsIn_wide (n := 4)).1 ?_
  refine callsIn_of_wp_marks Try.func4 rfl trivial ?_ rfl
  simp only [Try.ntmps4, List.size_toArray, List.length_cons, List.length_nil, Nat.reduceAdd, Nat.reduceSub, Array.replicate_succ, Array.replicate_zero, List.push_toArray, List.append_toArray, List.nil_append, List.cons_append]
  refine wpIn_wide.2 ?_
  go_wp2_with fail
  rw [HW.out]
  clear HW
  refine (awake04 W).mono ?_
  rintro e1 w1 ⟨rfl, hb1⟩
  have o1 := o1.keep hb1 (by omega)
  have o2 := o2.keep hb1 (by omega)
  have h1 := hs0.keep hb1
  have hz1 := hb1.size
  have hbw := below_t hbw hb1
  have c1 := o1.cell (i := 0) rfl
  go_wp2_with fail
  refine (RefSmall_b s b HB.out p c w1 h1).mono ?_
  rintro e2 w2 ⟨rfl, hb2⟩
  have o1 := o1.keep hb2 (by omega)
  have o2 := o2.keep hb2 (by omega)
  have h2 := h1.keep hb2
  have hz2 := hb2.size
  have hbw := below_t hbw hb2
  cases b with
  | false =>
    go_wp2_with fail
    refine (awake04 w2).mono ?_
    rintro e3 w3 ⟨rfl, hb3⟩
    have o2 := o2.keep hb3 (by omega)
    have k2 := o2.cell (i := 0) rfl
    have f2 := o2.frozen 0
    have hbz := below_set (below_t hbw hb3) (show w.heap.size ≤ w.heap.size + 1 by omega) 0 (.bool true)
    have k3 := (o2.set (i := 0) (by simp) (.bool true)).cell (i := 0) rfl
    go_wp2_with fail
    refine ⟨_, (by simp [results, Try.results4, go_sem, k3] : (results Try.f4 _).run Try.prog _ = .ok (.bool true) _), rfl, hbz⟩
  | true =>
    have hsh : Shape s := shapeS_zero.1 (by
      have := HB.out
      unfold smallS at this
      simp only [Bool.and_eq_true, beq_iff_eq] at this
      exact this.1.1.2)
    have hcl := cellsS_bd s
    have HSH := Lib.hid hsh
    have o3 : Own (w2.alloc (.cells #[.int .i64 0] 3)) w2.heap.size 3 [.int .i64 0] := Own.made _ _ [_] _ rfl
    have o1 := o1.keep (below_alloc w2 (.cells #[.int .i64 0] 3)) (by omega)
    have o2 := o2.keep (below_alloc w2 (.cells #[.int .i64 0] 3)) (by omega)
    have h3 := h2.keep (below_alloc w2 (.cells #[.int .i64 0] 3))
    have hbw := below_t hbw (below_alloc w2 (.cells #[.int .i64 0] 3))
    have q1 := o1.cell (i := 0) rfl
    clear hsh c1 h1 h2 hb1 hb2
    go_wp2_with fail
    have hz3 : (w2.alloc (.cells #[.int .i64 0] 3)).heap.size = w2.heap.size + 1 := by simp
    generalize w2.alloc (.cells #[.int .i64 0] 3) = w3 at *
    have hln : s.length ≤ 1000000 := by have := HSH.out.len; omega
    refine (All_any p c s s.length rfl hln w3 h3).mono ?_
    rintro e4 w4 ⟨N1, hN1, hb4, rfl, p1, p2, c1, c2, hR⟩
    have HR := Lib.hid hR
    have o1 := o1.keep hb4 (by omega)
    have o2 := o2.keep hb4 (by omega)
    have o3 := o3.keep hb4 (by omega)
    have h4 := h3.keep hb4
    have hbw := below_t hbw hb4
    have hz4 := hb4.size
    have heq := run_eql_seq
    clear hR hb4 q1 h3
    go_wp2_with fail
    obtain ⟨L, hL⟩ : ∃ L, betX (zeros s.length) s = L := ⟨_, rfl⟩
    have HL := Lib.hid hL
    have HOK := Lib.hid (ok_zeros HSH.out h4.i64)
    clear hL
    refine wpIn_wide.1 (wpIn_rangeFunc_odo (n := 4) (by omega) HOK.out L HL.out HR.out rfl rfl
      (fun b pre Z => Own Z w.heap.size 22 [.slice p s.length c] ∧ Own Z (w.heap.size + 1) 4 [.bool false] ∧ Own Z w2.heap.size 3 [.int .i64 pre.length] ∧ Below w.heap.size w Z) (fun _ _ _ _ => False) ?_ (fun _ _ _ _ _ _ hs _ _ => hs) ?_ ?a1 ?assign ?body ?done ?stop)
    case assign =>
      intro l x Z K hK
      gi_wp2
      exact hK
    · rintro b pre A B row ⟨k1, k2, k3, k4⟩ hg hr
      have key : ∀ j, j < w4.heap.size → some j ≠ row := fun j hj e => by have := (hr j e.symm).1; omega
      exact ⟨k1.block (hg.block _ k1.lt (key _ (by omega))), k2.block (hg.block _ k2.lt (key _ (by omega))), k3.block (hg.block _ k3.lt (key _ (by omega))), k4.grown hg k4.size fun k e => by have := (hr k e).1; omega⟩
    · rintro b A hb hg
      exact ⟨o1.block (hg.block _ o1.lt (by simp)), o2.block (hg.block _ o2.lt (by simp)), o3.block (hg.block _ o3.lt (by simp)), hbw.grown hg hbw.size (fun k e => by cases e)⟩
    case body =>
      rintro l b pre x A Z hb ⟨k1, k2, k3, k4⟩ hAZ ⟨hl1, hl2, hl3, o, ho1, ho2⟩ hmap hlen hnew
      have key : ∀ j, j < w4.heap.size → some j ≠ some l := fun j hj e => by cases e; omega
      have k1 := k1.block (hAZ.block _ k1.lt (key _ (by omega)))
      have k2 := k2.block (hAZ.block _ k2.lt (key _ (by omega)))
      have k3 := k3.block (hAZ.block _ k3.lt (key _ (by omega)))
      have k4 := k4.grown hAZ k4.size fun k e => by cases e; omega
      have hxk : L[pre.length]? = some x.v := by
        have := congrArg (fun l => l[pre.length]?) hmap
        rw [List.getElem?_map, List.getElem?_append_right (Nat.le_refl _), Nat.sub_self] at this
        rw [List.getElem?_take_of_lt (by omega)] at this
        exact this.symm
      rw [← HL.out] at hxk
      obtain ⟨x1, x2, -⟩ := bet_ok HOK.out (List.mem_of_getElem? hxk)
      have hoff := off_of (fun y hy => (HSH.out.dims y hy).1) hxk
      have hlN : ((betX (zeros s.length) s).length : Int) = cellsS s := len_zeros HSH.out
      rw [HL.out] at hlN
      have hplen : (pre.length : Int) < 65536 := by have := cellsS_bd s; omega
      have hxi : Ints Z x.p x.v := hnew.ints x2 (by rw [x1, zeros_len]; omega)
      have hsi : Ints Z p s := h.keep k4
      have HOFF := Lib.hid hoff
      have hxc : x.cell = .slice x.p x.v.length x.c := rfl
      have m1 := k1.cell (i := 0) rfl
      have m3 := k3.cell (i := 0) rfl
      have l1 := k1.lt
      have l3 := k3.lt
      have hS : (fun z => (w.heap.size < z.heap.size ∧ z.cell? ⟨w.heap.size, 0, none⟩ = some (.slice p s.length c)) ∧ (w2.heap.size < z.heap.size ∧ z.cell? ⟨w2.heap.size, 0, none⟩ = some (.int .i64 pre.length)) ∧ Below Z.heap.size Z z) Z := ⟨⟨l1, m1⟩, ⟨l3, m3⟩, Below.refl _ _⟩
      have hKS : Keeps (fun z => (w.heap.size < z.heap.size ∧ z.cell? ⟨w.heap.size, 0, none⟩ = some (.slice p s.length c)) ∧ (w2.heap.size < z.heap.size ∧ z.cell? ⟨w2.heap.size, 0, none⟩ = some (.int .i64 pre.length)) ∧ Below Z.heap.size Z z) := (keeps_cell _ _ _).and ((keeps_cell _ _ _).and fun a b h k => below_t h k)
      have HBB := Lib.hid (fun g (e : b = some g) => (hb g e).1)
      clear hmap hlen hnew hAZ ho1 ho2 hb hxk x1 x2 hoff hlN key
      have hdd : 1 ≤ 4 - 1 - 1 := by omega
      rw [hxc]
      gi_wp2
      refine wpIn_round_held (S := (fun z => (w.heap.size < z.heap.size ∧ z.cell? ⟨w.heap.size, 0, none⟩ = some (.slice p s.length c)) ∧ (w2.heap.size < z.heap.size ∧ z.cell? ⟨w2.heap.size, 0, none⟩ = some (.int .i64 pre.length)) ∧ Below Z.heap.size Z z)) (by kernel_rfl) (by kernel_rfl) ?_ (fun hHeld => ?_)
      · (try dsimp only); first | exact hKS _ _ (by first | exact hHeld | exact hS) (by first | assumption | (go_grown; done) | (refine from_drew ?_; go_grown; done))
      refine takeH 0 (some 20) (v := ?_) rfl rfl (by kernel_rfl) (by kernel_rfl) (by kernel_rfl) (by rfl) ?_ (by exact hHeld) ?_
      rotate_left
      · intro w hSw; (try dsimp only at hSw); go_simp; try (with_reducible rfl)
      try simp only [Act.put, List.setIfInBounds_toArray, List.set_cons_zero, List.set_cons_succ]
      refine takeH 1 (some 21) (v := ?_) rfl rfl (by kernel_rfl) (by kernel_rfl) (by kernel_rfl) (by rfl) ?_ (by exact hHeld) ?_
      rotate_left
      · intro w hSw; (try dsimp only at hSw); go_simp; try (with_reducible rfl)
      try simp only [Act.put, List.setIfInBounds_toArray, List.set_cons_zero, List.set_cons_succ]
      refine takeH 3 (some 23) (v := ?_) rfl rfl (by kernel_rfl) (by kernel_rfl) (by kernel_rfl) (by rfl) ?_ (by exact hHeld) ?_
      rotate_left
      · intro w hSw; (try dsimp only at hSw); go_simp; try (with_reducible rfl)
      try simp only [Act.put, List.setIfInBounds_toArray, List.set_cons_zero, List.set_cons_succ]
      refine wpAnyH_ready (rs := [2]) (by kernel_rfl) (by simp) ?_
      refine stepH 2 rfl (by rfl) (fun K hK => ?_) ?_
      · go_simp
        ((with_reducible refine (RefOffset_is s x.v (pre.length : Int) HOFF.out HSH.out p x.p c x.c _ ?_ ?_).mono ?_); (exact hsi.keep hHeld.2.2); (exact hxi.keep hHeld.2.2); rintro e9 w9 ⟨rfl, hb9⟩)
        refine hK.out _ _ ?_ (fun hNew => ?_)
        · (try dsimp only); first | exact hKS _ _ (by first | exact hHeld | exact hS) (by first | assumption | (go_grown; done) | (refine from_drew ?_; go_grown; done))
        clear hK K hHeld
        have hHeld := hNew
        clear hNew
        try dsimp only at hHeld
        try simp only [Act.put, List.setIfInBounds_toArray, List.set_cons_zero, List.set_cons_succ]
        refine takeH 4 (some 24) (v := ?_) rfl rfl (by kernel_rfl) (by kernel_rfl) (by kernel_rfl) (by rfl) ?_ (by exact hHeld) ?_
        rotate_left
        · intro w hSw; (try dsimp only at hSw); go_simp; try (with_reducible rfl)
        try simp only [Act.put, List.setIfInBounds_toArray, List.set_cons_zero, List.set_cons_succ]
        refine wpAnyH_done (by kernel_rfl) ?_ _
        refine NoPanic.normal ?_
        refine OnlyNormal.normal ?_
        have hb9z := hHeld.2.2
        have o1' := k1.keep hb9z l1
        have o2' := k2.keep hb9z k2.lt
        have o3' := k3.keep hb9z l3
        have q3 := o3'.cell (i := 0) rfl
        have f3 := o3'.frozen 0
        have HE := Lib.hid (round_end (N := w4.heap.size) (n1 := N1) (n2 := w4.heap.size) (b := b) (.int .i64 ((pre.length : Int) + 1)) hb9z (show w2.heap.size < w4.heap.size by omega) (show w2.heap.size < N1 by omega) HBB.out ⟨_, _, o3'⟩)
        have HO := Lib.hid (And.intro (o1'.other (a := ⟨w2.heap.size, 0, none⟩) (show w2.heap.size ≠ w.heap.size by omega) (.int .i64 ((pre.length : Int) + 1))) (And.intro (o2'.other (a := ⟨w2.heap.size, 0, none⟩) (show w2.heap.size ≠ w.heap.size + 1 by omega) (.int .i64 ((pre.length : Int) + 1))) (And.intro (o3'.set (i := 0) (by simp) (.int .i64 ((pre.length : Int) + 1))) (below_set (k4.trans (hb9z.mono k4.size)) (show w.heap.size ≤ w2.heap.size by omega) 0 (.int .i64 ((pre.length : Int) + 1))))))
        clear o1' o2' o3' hHeld hb9z hb9 m1 m3
        gi_wp2
        exact ⟨HE.out.1, HE.out.2, HO.out.1, HO.out.2.1, (by rw [List.length_append]; exact HO.out.2.2.1), HO.out.2.2.2⟩
      exact AllReadyH.nil
    case done =>
      rintro D b xs Z hD hmap ⟨k1, k2, k3, k4⟩ hK
      have hxs : ((xs.length : Nat) : Int) = cellsS s := by
        have e := congrArg List.length hmap
        rw [List.length_map, ← HL.out] at e
        rw [e]
        exact len_zeros HSH.out
      rw [hxs] at k3
      have hceq : (cellsS s == cellsS s) = true := by simp
      have hS : (fun z => (w.heap.size < z.heap.size ∧ z.cell? ⟨w.heap.size, 0, none⟩ = some (.slice p s.length c)) ∧ (w2.heap.size < z.heap.size ∧ z.cell? ⟨w2.heap.size, 0, none⟩ = some (.int .i64 (cellsS s))) ∧ (∃ u, Own z (w.heap.size + 1) 4 [u]) ∧ Below w.heap.size w z ∧ z.heap[D]? = some (.deferred (some []))) Z := ⟨⟨k1.lt, k1.cell (i := 0) rfl⟩, ⟨k3.lt, k3.cell (i := 0) rfl⟩, ⟨_, k2⟩, k4, hK⟩
      have hKS : Keeps (fun z => (w.heap.size < z.heap.size ∧ z.cell? ⟨w.heap.size, 0, none⟩ = some (.slice p s.length c)) ∧ (w2.heap.size < z.heap.size ∧ z.cell? ⟨w2.heap.size, 0, none⟩ = some (.int .i64 (cellsS s))) ∧ (∃ u, Own z (w.heap.size + 1) 4 [u]) ∧ Below w.heap.size w z ∧ z.heap[D]? = some (.deferred (some []))) := (keeps_cell _ _ _).and ((keeps_cell _ _ _).and ((keeps_some fun u => keeps_own _ _ _).and ((keeps_below w).and (keeps_obj _ _))))
      have hKst : ∀ z x, (fun z => (w.heap.size < z.heap.size ∧ z.cell? ⟨w.heap.size, 0, none⟩ = some (.slice p s.length c)) ∧ (w2.heap.size < z.heap.size ∧ z.cell? ⟨w2.heap.size, 0, none⟩ = some (.int .i64 (cellsS s))) ∧ (∃ u, Own z (w.heap.size + 1) 4 [u]) ∧ Below w.heap.size w z ∧ z.heap[D]? = some (.deferred (some []))) z → (fun z => (w.heap.size < z.heap.size ∧ z.cell? ⟨w.heap.size, 0, none⟩ = some (.slice p s.length c)) ∧ (w2.heap.size < z.heap.size ∧ z.cell? ⟨w2.heap.size, 0, none⟩ = some (.int .i64 (cellsS s))) ∧ (∃ u, Own z (w.heap.size + 1) 4 [u]) ∧ Below w.heap.size w z ∧ z.heap[D]? = some (.deferred (some []))) (z.setCell ⟨w.heap.size + 1, 0, none⟩ x) := by
        rintro z x ⟨⟨a1, a2⟩, ⟨b1, b2⟩, ⟨u, d1⟩, d2, d3⟩
        have hsc : (z.setCell ⟨w.heap.size + 1, 0, none⟩ x).heap.size = z.heap.size := by unfold World.setCell; simp only [Array.size_modify]
        have hcc : ∀ y : Nat, y ≠ w.heap.size + 1 → (z.setCell ⟨w.heap.size + 1, 0, none⟩ x).heap[y]? = z.heap[y]? := fun y hy => Below.heap_setCell z ⟨w.heap.size + 1, 0, none⟩ x y hy
        exact ⟨⟨by rw [hsc]; exact a1, (cell_same (a := ⟨w.heap.size, 0, none⟩) (hcc w.heap.size (by omega))).trans a2⟩, ⟨by rw [hsc]; exact b1, (cell_same (a := ⟨w2.heap.size, 0, none⟩) (hcc w2.heap.size (by omega))).trans b2⟩, ⟨x, d1.set (i := 0) (by simp) x⟩, below_set d2 (by omega) 0 _, (hcc D (by omega)).trans d3⟩
      clear hmap hxs k1 k2 k3 k4 hK
      go_wp2_with fail
      refine wp_region_noPanic ?_
      refine wp_region_held_drew (S := (fun z => (w.heap.size < z.heap.size ∧ z.cell? ⟨w.heap.size, 0, none⟩ = some (.slice p s.length c)) ∧ (w2.heap.size < z.heap.size ∧ z.cell? ⟨w2.heap.size, 0, none⟩ = some (.int .i64 (cellsS s))) ∧ (∃ u, Own z (w.heap.size + 1) 4 [u]) ∧ Below w.heap.size w z ∧ z.heap[D]? = some (.deferred (some [])))) (by kernel_rfl) ?_ (fun hHeld => ?_)
      · (try dsimp only); first | exact hKS _ _ (by first | exact hHeld | exact hS) (by first | assumption | (go_grown; done) | (refine from_drew ?_; go_grown; done)) | exact hKst _ _ hHeld
      refine takeH 0 (some 27) (v := ?_) rfl rfl (by kernel_rfl) (by kernel_rfl) (by kernel_rfl) (by rfl) ?_ (by exact hHeld) ?_
      rotate_left
      · intro w hSw; (try dsimp only at hSw); go_simp; try (with_reducible rfl)
      try simp only [Act.put, List.setIfInBounds_toArray, List.set_cons_zero, List.set_cons_succ]
      refine takeH 1 (some 28) (v := ?_) rfl rfl (by kernel_rfl) (by kernel_rfl) (by kernel_rfl) (by rfl) ?_ (by exact hHeld) ?_
      rotate_left
      · intro w hSw; (try dsimp only at hSw); go_simp; try (with_reducible rfl)
      try simp only [Act.put, List.setIfInBounds_toArray, List.set_cons_zero, List.set_cons_succ]
      refine wpAnyH_ready (rs := [2]) (by kernel_rfl) (by simp) ?_
      refine stepH 2 rfl (by rfl) (fun K hK => ?_) ?_
      · go_simp
        ((with_reducible refine (RefCells_b s (cellsS s) rfl p c _ ?_).mono ?_); (exact h.keep hHeld.2.2.2.1); rintro e9 w9 ⟨rfl, hb9⟩)
        refine hK.out _ _ ?_ (fun hNew => ?_)
        · (try dsimp only); first | exact hKS _ _ (by first | exact hHeld | exact hS) (by first | assumption | (go_grown; done) | (refine from_drew ?_; go_grown; done)) | exact hKst _ _ hHeld
        clear hK K hHeld
        have hHeld := hNew
        clear hNew
        try dsimp only at hHeld
        try simp only [Act.put, List.setIfInBounds_toArray, List.set_cons_zero, List.set_cons_succ]
        refine takeH 3 (some 30) (v := ?_) rfl rfl (by kernel_rfl) (by kernel_rfl) (by kernel_rfl) (by rfl) ?_ (by exact hHeld) ?_
        rotate_left
        · intro w hSw; (try dsimp only at hSw); go_simp; try (with_reducible rfl)
        try simp only [Act.put, List.setIfInBounds_toArray, List.set_cons_zero, List.set_cons_succ]
        refine wpAnyH_ready (rs := [4]) (by kernel_rfl) (by simp) ?_
        refine stepH 4 rfl (by rfl) (fun K hK => ?_) ?_
        · obtain ⟨u2, ow2⟩ := id hHeld.2.2.1; have q2 := ow2.cell (i := 0) rfl; have f2 := ow2.frozen 0; have ow3 := ow2.set (i := 0) (by simp) (.bool true); go_simp
          refine hK.out _ _ ?_ (fun hNew => ?_)
          · (try dsimp only); first | exact hKS _ _ (by first | exact hHeld | exact hS) (by first | assumption | (go_grown; done) | (refine from_drew ?_; go_grown; done)) | exact hKst _ _ hHeld
          clear hK K hHeld
          have hHeld := hNew
          clear hNew
          try dsimp only at hHeld
          try simp only [Act.put, List.setIfInBounds_toArray, List.set_cons_zero, List.set_cons_succ]
          refine wpAnyH_done (by kernel_rfl) ?_ _
          refine NoPanic.normal ?_
          have HK := hHeld.2.2.2.2
          have ow5 := (ow3.grown (grownBy_putObj' _ D (.deferred none)) (show some (w.heap.size + 1) ≠ some D by intro e; cases e; omega)).cell (i := 0) rfl
          have hbz := hHeld.2.2.2.1.grown (grownBy_putObj' _ D (.deferred none)) hHeld.2.2.2.1.size (fun k e => by cases e; omega)
          clear q2 f2
          go_wp2_with fail
          refine ⟨by simp, .inl ⟨_, _, rfl, run_takeDeferred HK, ?_⟩⟩
          exact ⟨_, (by simp [results, Try.results4, go_sem, ow5] : (results Try.f4 _).run Try.prog _ = .ok (.bool true) _), rfl, hbz⟩
        exact AllReadyH.nil
      exact AllReadyH.nil
    case stop =>
      rintro D c b pre W _ _ _ hf _
      exact hf.elim
end Go.Proofs.Ythkfjiioekhkhaa
