/- 'for i := range odometer.Between(lo, hi)': what the caller owes. Turned from the kit's law for iterators that keep nothing in cells. No condition beyond what it says. -/
import Derived.Test.YthkfjiioekhkhaaIter2
namespace Go.Proofs.Ythkfjiioekhkhaa
open Go.RowKit Go.Shelf
set_option linter.unusedVariables false
set_option linter.unusedSimpArgs false

/-- how the body of a round may be left -/
def ownPostO (B n1 n2 : Nat) (b : Option Nat) (I : Option Nat → List RowV → World → Prop) (Ix : Code → Option Nat → List RowV → World → Prop) (xs : List RowV) (W : World) : Exit → Act → World → Prop
  | .normal, _, W' => KeepsFrom B W W' ∧ KpR n1 n2 b W W' ∧ I b xs W'
  | .ret, _, W' => KeepsFrom B W W' ∧ Ix .ret b xs W'
  | .exit id, _, W' => KeepsFrom B W W' ∧ Ix (.exit id) b xs W'
  | .goto t, _, W' => KeepsFrom B W W' ∧ Ix (.goto t) b xs W'
  | .panic _, _, _ => False
  | .outgrown, _, _ => False

set_option maxHeartbeats 2000000 in
theorem wpIn_rangeFunc_odo {g : Operand} {ps : Array Tmp} {assign body : Code} {Q : Exit → Act → World → Prop} {a : Act} {w : World} {n : Nat} (h2 : 2 ≤ n)
    {n1 n2 B1 B2 : Nat} {p1 p2 : Option Addr} {c1 c2 : Nat} {lo hi : List Int} (hO : OdoOk lo hi) (L : List (List Int)) (hL : betX lo hi = L) (hR : RangeAt n1 n2 B1 B2 p1 p2 c1 c2 lo hi w)
    (hg : a.eval g = .func (.func 40) #[] #[.pointer (some ⟨B1, 0, none⟩), .pointer (some ⟨B2, 0, none⟩)]) (hps : ps.size = 1)
    (I : Option Nat → List RowV → World → Prop) (Ix : Code → Option Nat → List RowV → World → Prop)
    (hI : ∀ b s A B row, I b s A → A.grownBy B row → (∀ r, row = some r → w.heap.size ≤ r ∧ (b = some r ∨ ∃ o : Obj, A.heap[r]? = some o ∧ o.isCells = false)) → I b s B)
    (hIx : ∀ c b s A B row, Ix c b s A → A.grownBy B row → (∀ r, row = some r → w.heap.size ≤ r ∧ ∃ o : Obj, A.heap[r]? = some o ∧ o.isCells = false) → Ix c b s B)
    (h0 : ∀ b A, (∀ g, b = some g → w.heap.size ≤ g ∧ g < A.heap.size) → w.grownBy A none → I b [] A)
    (a₁ : RowV → Act)
    (hassign : ∀ (l : Nat) (x : RowV) (W : World) (K : Act → World → Prop), K (a₁ x) W →
      assign.wpIn (Fence.wide.inRound l) (n - 1 - 1) Try.prog (Exit.then K (fun _ _ _ => False)) { tmps := (ps.zip #[x.cell]).foldl (fun t (p, v) => t.setIfInBounds p v) a.tmps, defers := [] } W)
    (hbody : ∀ (l : Nat) (b : Option Nat) (pre : List RowV) (x : RowV) (A W : World), (∀ g, b = some g → w.heap.size ≤ g ∧ g < A.heap.size) → I b pre A → A.grownBy W (some l) → (w.heap.size ≤ l ∧ l < A.heap.size ∧ b ≠ some l ∧ ∃ o : Obj, A.heap[l]? = some o ∧ o.isCells = false) →
      (pre ++ [x]).map RowV.v = L.take (pre.length + 1) → pre.length < L.length → New A.heap.size W x.p 3 (x.v.map (.int .i64)) →
      body.wpIn (Fence.wide.inRound l) (n - 1 - 1) Try.prog (ownPostO w.heap.size n1 n2 b I Ix (pre ++ [x]) W) (a₁ x) W)
    (hdone : ∀ (D : Nat) (b : Option Nat) (xs : List RowV) (W : World), w.heap.size ≤ D → xs.map RowV.v = L → I b xs W → W.heap[D]? = some (.deferred (some [])) → Q .normal { a with defers := { target := .collected D, args := #[] } :: a.defers } W)
    (hstop : ∀ (D : Nat) (c : Code) (b : Option Nat) (pre : List RowV) (W : World), w.heap.size ≤ D → pre ≠ [] → pre.map RowV.v = L.take pre.length → Ix c b pre W → W.heap[D]? = some (.deferred (some [])) → c.wpIn Fence.wide n Try.prog Q { a with defers := { target := .collected D, args := #[] } :: a.defers } W) :
    (Code.rangeFunc g ps assign body).wpIn Fence.wide n Try.prog Q a w := by
  refine wpIn_rangeFunc ?_
  intro fn hfn
  rw [show Fence.wide.round = none from rfl]
  obtain ⟨rec, hrec⟩ : ∃ rec : LoopState → Option Code → Loop, rec = fun st pe => { state := st, pending := pe, fn, tmps := a.tmps, params := ps, assign, body, defers := w.heap.size } := ⟨_, rfl⟩
  obtain ⟨W1, hW1⟩ : ∃ W1, (w.alloc (.deferred (some []))).alloc (.loop (rec .ready none)) = W1 := ⟨_, rfl⟩
  have hs1 : W1.heap.size = w.heap.size + 2 := by rw [← hW1]; simp
  have hL1 : W1.heap[w.heap.size + 1]? = some (.loop (rec .ready none)) := by
    rw [← hW1]; have := World.alloc_heap_new (w.alloc (.deferred (some []))) (.loop (rec .ready none)); rwa [World.size_alloc] at this
  have hK1 : W1.heap[w.heap.size]? = some (.deferred (some [])) := by
    rw [← hW1]; exact (Below.heap_alloc _ _ _ (by simp)).trans (World.alloc_heap_new w _)
  have hg1 : w.grownBy W1 none := by
    rw [← hW1]
    exact grown_trans (World.grownBy_alloc w _ none) (World.grownBy_alloc _ _ none)
  refine ⟨w.heap.size + 1, [{ target := .collected w.heap.size, args := #[] }], W1, { target := .fn (.func 40) #[.pointer (some ⟨B1, 0, none⟩), .pointer (some ⟨B2, 0, none⟩)], args := #[.func (.yield (w.heap.size + 1)) #[] #[]] }, W1, 40,
    #[.func (.yield (w.heap.size + 1)) #[] #[], .pointer (some ⟨B1, 0, none⟩), .pointer (some ⟨B2, 0, none⟩)], W1, ?_, ?_, ?_, ?_, fun _ => by omega, ?_⟩
  · rw [← hW1, hrec]; exact run_enterLoop_outer _ _ _ _ _
  · simp only [resolve, hg]
    simp [go_sem]
  · intro f' hf'; simp [Target.leads] at hf'; subst hf'; trivial
  · simp [invoke, go_sem, enters_of Try.func40 (by kernel_rfl) rfl]
  · have gp : ∀ (W : World) (l : Nat) (o' : Obj), W.grownBy (W.putObj l o') (some l) := fun W l o' => grownBy_putObj' W l o'
    have hbne : ∀ {b : Option Nat}, (∀ g, b = some g → W1.heap.size ≤ g) → ∀ k, k < w.heap.size + 2 → some k ≠ b := fun hb k hk e => by
      have := hb k e.symm
      omega
    refine (Between1_in (n - 1) (by omega) (w.heap.size + 1) n1 n2 B1 B2 p1 p2 c1 c2 lo hi hO L hL
      (fun b pre W => I b pre W ∧ W.heap[w.heap.size + 1]? = some (.loop (rec .ready none)) ∧ W.heap[w.heap.size]? = some (.deferred (some [])))
      (fun b pre W => ∃ c, Ix c b pre W ∧ W.heap[w.heap.size + 1]? = some (.loop (rec .done (some c))) ∧ W.heap[w.heap.size]? = some (.deferred (some [])))
      W1 (hR.grown hg1 (fun g e => by cases e)) ?_ ?_ ?_).mono ?_
    · rintro b s A B hb ⟨hi, hl, hk⟩ hgr
      have hlt : w.heap.size + 1 < A.heap.size := (Array.getElem?_eq_some_iff.1 hl).1
      exact ⟨hI b s A B b hi hgr (fun r e => ⟨by have := hb r e; omega, .inl e⟩), (hgr.block _ hlt (hbne hb _ (by omega))).trans hl, (hgr.block _ (by omega) (hbne hb _ (by omega))).trans hk⟩
    · -- one round
      rintro b pre x A W hb ⟨hi, hlA, hkA⟩ hAW hmap hlen hnew
      have hltA : w.heap.size + 1 < A.heap.size := (Array.getElem?_eq_some_iff.1 hlA).1
      have hl := (hAW.block _ hltA (by simp)).trans hlA
      have hk := (hAW.block w.heap.size (by omega) (by simp)).trans hkA
      have hlt : w.heap.size + 1 < W.heap.size := (Array.getElem?_eq_some_iff.1 hl).1
      have hy := run_yield (P := Try.prog) (args := #[x.cell]) hl (by rw [hrec]; exact hps.symm)
      rw [hrec] at hy
      refine ⟨fn, _, assign, body, hy, roundIn_of_wpIn hfn (hassign _ x W _ ⟨_, run_beginRound hl (by rw [hrec]), ?_⟩)⟩
      have hl2 : (W.putObj (w.heap.size + 1) (.loop { rec .ready none with state := .busy })).heap[w.heap.size + 1]? = some (.loop { rec .ready none with state := .busy }) := World.putObj_heap_same hlt
      have hk2 : (W.putObj (w.heap.size + 1) (.loop { rec .ready none with state := .busy })).heap[w.heap.size]? = some (.deferred (some [])) := (World.putObj_heap_other (by omega)).trans hk
      have hbn : b ≠ some (w.heap.size + 1) := (hbne (fun g e => (hb g e).1) (w.heap.size + 1) (by omega)).symm
      have hle2 := hR.le
      have hw2 : KpR n1 n2 b W (W.putObj (w.heap.size + 1) (.loop { rec .ready none with state := .busy })) := KpR.of (gp _ _ _) fun r e => by cases e; exact ⟨by omega, hbn⟩
      have hnew2 : New A.heap.size (W.putObj (w.heap.size + 1) (.loop { rec .ready none with state := .busy })) x.p 3 (x.v.map (.int .i64)) := by
        rcases hnew with h | ⟨q, hp, hq, ho⟩
        · exact .inl h
        · exact .inr ⟨q, hp, hq, ho.grown (gp _ _ _) (by intro e; cases e; omega)⟩
      refine wpIn_mono (hbody _ b pre x A _ (fun g e => ⟨by have := (hb g e).1; omega, (hb g e).2⟩) hi (grown_trans (grown_up hAW (some (w.heap.size + 1))) (gp _ _ _)) ⟨by omega, hltA, hbn, _, hlA, rfl⟩ hmap hlen hnew2) ?_
      have fin : ∀ (jump : Option Code) (W3 : World), KeepsFrom w.heap.size (W.putObj (w.heap.size + 1) (.loop { rec .ready none with state := .busy })) W3 →
          (Instr.endRound (w.heap.size + 1) jump).run Try.prog W3 = .ok (.bool jump.isNone) (W3.putObj (w.heap.size + 1) (.loop (rec (if jump.isNone then .ready else .done) jump))) ∧
          W3.heap[w.heap.size + 1]? = some (.loop { rec .ready none with state := .busy }) ∧
          (W3.putObj (w.heap.size + 1) (.loop (rec (if jump.isNone then .ready else .done) jump))).heap[w.heap.size + 1]? = some (.loop (rec (if jump.isNone then .ready else .done) jump)) ∧
          (W3.putObj (w.heap.size + 1) (.loop (rec (if jump.isNone then .ready else .done) jump))).heap[w.heap.size]? = some (.deferred (some [])) := fun jump W3 hk3 => by
        have hl3 := hk3.same _ _ (by omega) hl2 rfl
        have := run_endRound (P := Try.prog) jump hl3
        rw [hrec] at this ⊢
        exact ⟨this, by rw [hrec] at hl3; exact hl3, World.putObj_heap_same (Array.getElem?_eq_some_iff.1 hl3).1, (World.putObj_heap_other (by omega)).trans (hk3.same _ _ (Nat.le_refl _) hk2 rfl)⟩
      rintro e a3 W3 hp
      cases e with
      | normal =>
        obtain ⟨hk3, hkp3, hi3⟩ := hp
        obtain ⟨hr, hl3, hl4, hk4⟩ := fin none W3 hk3
        exact ⟨_, _, hr, .inl ⟨rfl, ⟨hI _ _ _ _ _ hi3 (gp _ _ _) (fun r e => by cases e; exact ⟨by omega, .inr ⟨_, hl3, rfl⟩⟩), hl4, hk4⟩, (hw2.trans hkp3).trans (KpR.of (gp _ _ _) fun r e => by cases e; exact ⟨by omega, hbn⟩)⟩⟩
      | ret =>
        obtain ⟨hk3, hi3⟩ := hp
        obtain ⟨hr, hl3, hl4, hk4⟩ := fin (some .ret) W3 hk3
        exact ⟨_, _, hr, .inr ⟨rfl, .ret, hIx _ _ _ _ _ _ hi3 (gp _ _ _) (fun r e => by cases e; exact ⟨by omega, _, hl3, rfl⟩), hl4, hk4⟩⟩
      | exit id =>
        obtain ⟨hk3, hi3⟩ := hp
        obtain ⟨hr, hl3, hl4, hk4⟩ := fin (some (.exit id)) W3 hk3
        exact ⟨_, _, hr, .inr ⟨rfl, .exit id, hIx _ _ _ _ _ _ hi3 (gp _ _ _) (fun r e => by cases e; exact ⟨by omega, _, hl3, rfl⟩), hl4, hk4⟩⟩
      | goto t =>
        obtain ⟨hk3, hi3⟩ := hp
        obtain ⟨hr, hl3, hl4, hk4⟩ := fin (some (.goto t)) W3 hk3
        exact ⟨_, _, hr, .inr ⟨rfl, .goto t, hIx _ _ _ _ _ _ hi3 (gp _ _ _) (fun r e => by cases e; exact ⟨by omega, _, hl3, rfl⟩), hl4, hk4⟩⟩
      | panic ch => exact hp.elim
      | outgrown => exact hp.elim
    · intro b A hb hgr
      exact ⟨h0 b A (fun g e => ⟨by have := (hb g e).1; omega, (hb g e).2⟩) (grown_trans hg1 hgr), (hgr.block _ (by omega) (by simp)).trans hL1, (hgr.block _ (by omega) (by simp)).trans hK1⟩
    · -- behind the iterator
      rintro e W2 ⟨⟨v, rfl⟩, b, hb, (⟨xs, hS, hi, hl, hk⟩ | ⟨pre, hne, hSp, c, hi, hl, hk⟩)⟩
      · exact ⟨none, _, by have := run_endLoop (P := Try.prog) hl (by rw [hrec]; simp); rw [hrec] at this; exact this, hdone _ b xs _ (Nat.le_refl _) hS (hI _ _ _ _ _ hi (gp _ _ _) (fun r e => by cases e; exact ⟨by omega, .inr ⟨_, hl, rfl⟩⟩)) ((World.putObj_heap_other (by omega)).trans hk)⟩
      · exact ⟨some c, _, by have := run_endLoop (P := Try.prog) hl (by rw [hrec]; simp); rw [hrec] at this; exact this, hstop _ c b pre _ (Nat.le_refl _) hne hSp (hIx _ _ _ _ _ _ hi (gp _ _ _) (fun r e => by cases e; exact ⟨by omega, _, hl, rfl⟩)) ((World.putObj_heap_other (by omega)).trans hk)⟩

theorem Own.block {W Z : World} {g : Nat} {e : TypeId} {vs : List Value} (h : Own W g e vs) (hk : Z.heap[g]? = W.heap[g]?) : Own Z g e vs := by
  obtain ⟨r, h'⟩ := h
  exact ⟨r, hk.trans h'⟩
/-- a round that has written the box X alone -/
theorem round_end {N n1 n2 : Nat} {b : Option Nat} {Z z : World} {X : Nat} (v : Value) (h : Below Z.heap.size Z z) (hX : X < N) (hX1 : X < n1) (hb : ∀ g, b = some g → N ≤ g) (hx : ∃ u T, Own z X T [u]) :
    KeepsFrom N Z (z.setCell ⟨X, 0, none⟩ v) ∧ KpR n1 n2 b Z (z.setCell ⟨X, 0, none⟩ v) := by
  have hsc : (z.setCell ⟨X, 0, none⟩ v).heap.size = z.heap.size := by unfold World.setCell; simp only [Array.size_modify]
  have same : ∀ k, k < Z.heap.size → k ≠ X → (z.setCell ⟨X, 0, none⟩ v).heap[k]? = Z.heap[k]? := fun k hk h2 => (Below.heap_setCell z ⟨X, 0, none⟩ v k h2).trans (h.block k hk)
  refine ⟨⟨by rw [hsc]; exact h.size, fun k ob hk h1 h2 => (same k (Array.getElem?_eq_some_iff.1 h1).1 (by omega)).trans h1⟩, by rw [hsc]; exact h.size, fun k hk hlt => same k hlt ?_⟩
  rcases hk with hk | hk
  · omega
  · have := hb k hk
    omega
theorem seg_new {B B' : Nat} {W : World} {p : Option Addr} {xs : List Int} (h : New B W p 3 (xs.map (.int .i64))) (hB : B' ≤ B) : SegRow B' W.heap.size W p xs := by
  rcases h with h | ⟨g, hp, hg, ho⟩
  · exact .inl (by simpa using h)
  · exact .inr ⟨g, hp, by omega, ho.lt, ho⟩
theorem range_made {w wa w1 w2 : World} {r1 r2 : Option Addr} {d1 d2 : Nat} {lo hi : List Int} {u v : Value} (hsa : w.heap.size + 1 < wa.heap.size) (hb1 : Below wa.heap.size wa w1) (hb2 : Below w1.heap.size w1 w2) (n1 : New wa.heap.size w1 r1 3 (lo.map (.int .i64)))
    (n2 : New w1.heap.size w2 r2 3 (hi.map (.int .i64))) (o1 : Own w2 w.heap.size 22 [u]) (o2 : Own w2 (w.heap.size + 1) 22 [v]) :
    RangeAt w.heap.size ((w2.setCell ⟨w.heap.size, 0, none⟩ (.slice r1 lo.length d1)).setCell ⟨w.heap.size + 1, 0, none⟩ (.slice r2 hi.length d2)).heap.size w.heap.size (w.heap.size + 1) r1 r2 d1 d2 lo hi
      ((w2.setCell ⟨w.heap.size, 0, none⟩ (.slice r1 lo.length d1)).setCell ⟨w.heap.size + 1, 0, none⟩ (.slice r2 hi.length d2)) := by
  have hz1 := hb1.size
  have hz2 := hb2.size
  have e : ((w2.setCell ⟨w.heap.size, 0, none⟩ (.slice r1 lo.length d1)).setCell ⟨w.heap.size + 1, 0, none⟩ (.slice r2 hi.length d2)).heap.size = w2.heap.size := by
    unfold World.setCell
    simp only [Array.size_modify]
  have m1 := ((n1.keep' hb2).other (a := ⟨w.heap.size, 0, none⟩) (show w.heap.size < wa.heap.size by omega) (.slice r1 lo.length d1)).other (a := ⟨w.heap.size + 1, 0, none⟩) (show w.heap.size + 1 < wa.heap.size by omega) (.slice r2 hi.length d2)
  have m2 := (n2.other (a := ⟨w.heap.size, 0, none⟩) (show w.heap.size < w1.heap.size by omega) (.slice r1 lo.length d1)).other (a := ⟨w.heap.size + 1, 0, none⟩) (show w.heap.size + 1 < w1.heap.size by omega) (.slice r2 hi.length d2)
  have q1 := (o1.set (i := 0) (by simp) (.slice r1 lo.length d1)).other (a := ⟨w.heap.size + 1, 0, none⟩) (by simp) (.slice r2 hi.length d2)
  have q2 := (o2.other (a := ⟨w.heap.size, 0, none⟩) (by simp) (.slice r1 lo.length d1)).set (i := 0) (by simp) (.slice r2 hi.length d2)
  exact ⟨Nat.le_refl _, ⟨Nat.le_refl _, by rw [e]; omega⟩, ⟨by omega, by rw [e]; omega⟩, q1.cell (i := 0) rfl, q2.cell (i := 0) rfl, seg_new m1 (by omega), seg_new m2 (by omega)⟩

set_option maxRecDepth 100000 in
set_option maxHeartbeats 4000000 in
/-- odometer.Between: two boxes with copies of the lists, and the iterator over them -/
theorem Between_any (p q : Option Addr) (c f : Nat) (lo hi : List Int) (n m : Nat) (hn : lo.length = n) (hm : hi.length = m) (hl : n ≤ 1000000) (hl' : m ≤ 1000000) (w : World) (h : Ints w p lo) (h' : Ints w q hi) :
    Calls Try.prog 18 #[.slice p n c, .slice q m f] w fun e w' =>
      e = .returned (.func (.func 40) #[] #[.pointer (some ⟨w.heap.size, 0, none⟩), .pointer (some ⟨w.heap.size + 1, 0, none⟩)]) ∧
      (∃ p1 p2 c1 c2, RangeAt w.heap.size w'.heap.size w.heap.size (w.heap.size + 1) p1 p2 c1 c2 lo hi w') ∧ Below w.heap.size w w' := by
  subst hn hm
  obtain ⟨wa, hwa⟩ : ∃ wa, (w.alloc (.cells #[.slice p lo.length c] 22)).alloc (.cells #[.slice q hi.length f] 22) = wa := ⟨_, rfl⟩
  have o2 : Own wa (w.heap.size + 1) 22 [.slice q hi.length f] := by rw [← hwa]; exact Own.made _ _ [_] _ (by simp)
  have o1 : Own wa w.heap.size 22 [.slice p lo.length c] := by rw [← hwa]; exact (Own.made w _ [_] _ rfl).keep (below_alloc _ _) (by simp)
  have hba : Below w.heap.size w wa := by rw [← hwa]; exact below_t (below_alloc _ _) (below_alloc _ _)
  have c1 := o1.cell (i := 0) rfl
  have c2 := o2.cell (i := 0) rfl
  have hsa := hba.size
  have l1 := o1.lt
  have l2 := o2.lt
  have HW := Lib.hid hwa
  clear hwa
  have hS : (fun w' => (∃ u, Own w' w.heap.size 22 [u]) ∧ (∃ v, Own w' (w.heap.size + 1) 22 [v]) ∧ Below w.heap.size w w') wa := ⟨⟨_, o1⟩, ⟨_, o2⟩, hba⟩
  have hKS : Keeps (fun w' => (∃ u, Own w' w.heap.size 22 [u]) ∧ (∃ v, Own w' (w.heap.size + 1) 22 [v]) ∧ Below w.heap.size w w') := by
    rintro a b ⟨⟨u, h1⟩, ⟨v, h2⟩, h3⟩ hb
    exact ⟨⟨u, h1.keep hb h1.lt⟩, ⟨v, h2.keep hb h2.lt⟩, below_t h3 hb⟩
  have hK1 : ∀ z x, (fun w' => (∃ u, Own w' w.heap.size 22 [u]) ∧ (∃ v, Own w' (w.heap.size + 1) 22 [v]) ∧ Below w.heap.size w w') z → (fun w' => (∃ u, Own w' w.heap.size 22 [u]) ∧ (∃ v, Own w' (w.heap.size + 1) 22 [v]) ∧ Below w.heap.size w w') (z.setCell ⟨w.heap.size, 0, none⟩ x) := by
    rintro z x ⟨⟨u, h1⟩, ⟨v, h2⟩, h3⟩
    exact ⟨⟨x, h1.set (i := 0) (by simp) x⟩, ⟨v, h2.other (by simp) _⟩, below_set h3 (Nat.le_refl _) 0 _⟩
  have hK2 : ∀ z x, (fun w' => (∃ u, Own w' w.heap.size 22 [u]) ∧ (∃ v, Own w' (w.heap.size + 1) 22 [v]) ∧ Below w.heap.size w w') z → (fun w' => (∃ u, Own w' w.heap.size 22 [u]) ∧ (∃ v, Own w' (w.heap.size + 1) 22 [v]) ∧ Below w.heap.size w w') (z.setCell ⟨w.heap.size + 1, 0, none⟩ x) := by
    rintro z x ⟨⟨u, h1⟩, ⟨v, h2⟩, h3⟩
    exact ⟨⟨u, h1.other (by simp) _⟩, ⟨x, h2.set (i := 0) (by simp) x⟩, below_set h3 (by omega) 0 _⟩
  go_enter Try.func18, Try.ntmps18
  go_wp2_with fail
  rw [HW.out]
  clear HW
  refine wp_region_noPanic ?_
  refine wp_region_held_drew (S := (fun w' => (∃ u, Own w' w.heap.size 22 [u]) ∧ (∃ v, Own w' (w.heap.size + 1) 22 [v]) ∧ Below w.heap.size w w')) (by kernel_rfl) ?_ (fun hHeld => ?_)
  · (try dsimp only); first | exact hKS _ _ (by first | exact hHeld | exact hS) (by first | assumption | (go_grown; done) | (refine from_drew ?_; go_grown; done)) | exact hK1 _ _ hHeld | exact hK2 _ _ hHeld
  refine wpAnyH_ready (rs := [0, 2]) (by kernel_rfl) (by simp) ?_
  refine stepH 0 rfl (by rfl) (fun K hK => ?_) ?_
  · go_simp
    refine hK.out _ _ ?_ (fun hNew => ?_)
    · (try dsimp only); first | exact hKS _ _ (by first | exact hHeld | exact hS) (by first | assumption | (go_grown; done) | (refine from_drew ?_; go_grown; done)) | exact hK1 _ _ hHeld | exact hK2 _ _ hHeld
    clear hK K hHeld
    have hHeld := hNew
    clear hNew
    try dsimp only at hHeld
    try simp only [Act.put, List.setIfInBounds_toArray, List.set_cons_zero, List.set_cons_succ]
    refine wpAnyH_ready (rs := [1, 2]) (by kernel_rfl) (by simp) ?_
    refine stepH 1 rfl (by rfl) (fun K hK => ?_) ?_
    · go_simp
      ((with_reducible refine (Clone_at p c lo lo.length rfl _ ?_ hl).mono ?_); (exact h.keep hHeld.2.2); rintro e1 w1 ⟨⟨r1, d1, rfl, n1⟩, hb1⟩); have hb1 : Below wa.heap.size wa w1 := below_t (below_drewN _ wa _) hb1; have o1b := o1.keep hb1 l1; have o2b := o2.keep hb1 l2; have c2b := o2b.cell (i := 0) rfl; have l1b := o1b.lt; have l2b := o2b.lt
      refine hK.out _ _ ?_ (fun hNew => ?_)
      · (try dsimp only); first | exact hKS _ _ (by first | exact hHeld | exact hS) (by first | assumption | (go_grown; done) | (refine from_drew ?_; go_grown; done)) | exact hK1 _ _ hHeld | exact hK2 _ _ hHeld
      clear hK K hHeld
      have hHeld := hNew
      clear hNew
      try dsimp only at hHeld
      try simp only [Act.put, List.setIfInBounds_toArray, List.set_cons_zero, List.set_cons_succ]
      refine wpAnyH_ready (rs := [2]) (by kernel_rfl) (by simp) ?_
      refine stepH 2 rfl (by rfl) (fun K hK => ?_) ?_
      · go_simp
        refine hK.out _ _ ?_ (fun hNew => ?_)
        · (try dsimp only); first | exact hKS _ _ (by first | exact hHeld | exact hS) (by first | assumption | (go_grown; done) | (refine from_drew ?_; go_grown; done)) | exact hK1 _ _ hHeld | exact hK2 _ _ hHeld
        clear hK K hHeld
        have hHeld := hNew
        clear hNew
        try dsimp only at hHeld
        try simp only [Act.put, List.setIfInBounds_toArray, List.set_cons_zero, List.set_cons_succ]
        refine wpAnyH_ready (rs := [3]) (by kernel_rfl) (by simp) ?_
        refine stepH 3 rfl (by rfl) (fun K hK => ?_) ?_
        · go_simp
          ((with_reducible refine (Clone_at q f hi hi.length rfl _ ?_ hl').mono ?_); (exact h'.keep hHeld.2.2); rintro e2 w2 ⟨⟨r2, d2, rfl, n2⟩, hb2⟩); have o1c := o1b.keep hb2 l1b; have o2c := o2b.keep hb2 l2b; have c1c := o1c.cell (i := 0) rfl; have f1c := o1c.frozen 0; have o2d := o2c.other (a := ⟨w.heap.size, 0, none⟩) (by simp) (.slice r1 lo.length d1); have c2d := o2d.cell (i := 0) rfl; have f2d := o2d.frozen 0
          refine hK.out _ _ ?_ (fun hNew => ?_)
          · (try dsimp only); first | exact hKS _ _ (by first | exact hHeld | exact hS) (by first | assumption | (go_grown; done) | (refine from_drew ?_; go_grown; done)) | exact hK1 _ _ hHeld | exact hK2 _ _ hHeld
          clear hK K hHeld
          have hHeld := hNew
          clear hNew
          try dsimp only at hHeld
          try simp only [Act.put, List.setIfInBounds_toArray, List.set_cons_zero, List.set_cons_succ]
          refine wpAnyH_ready (rs := [4]) (by kernel_rfl) (by simp) ?_
          refine stepH 4 rfl (by rfl) (fun K hK => ?_) ?_
          · go_simp
            refine hK.out _ _ ?_ (fun hNew => ?_)
            · (try dsimp only); first | exact hKS _ _ (by first | exact hHeld | exact hS) (by first | assumption | (go_grown; done) | (refine from_drew ?_; go_grown; done)) | exact hK1 _ _ hHeld | exact hK2 _ _ hHeld
            clear hK K hHeld
            have hHeld := hNew
            clear hNew
            try dsimp only at hHeld
            try simp only [Act.put, List.setIfInBounds_toArray, List.set_cons_zero, List.set_cons_succ]
            refine wpAnyH_ready (rs := [5]) (by kernel_rfl) (by simp) ?_
            refine stepH 5 rfl (by rfl) (fun K hK => ?_) ?_
            · go_simp
              refine hK.out _ _ ?_ (fun hNew => ?_)
              · (try dsimp only); first | exact hKS _ _ (by first | exact hHeld | exact hS) (by first | assumption | (go_grown; done) | (refine from_drew ?_; go_grown; done)) | exact hK1 _ _ hHeld | exact hK2 _ _ hHeld
              clear hK K hHeld
              have hHeld := hNew
              clear hNew
              try dsimp only at hHeld
              try simp only [Act.put, List.setIfInBounds_toArray, List.set_cons_zero, List.set_cons_succ]
              refine wpAnyH_done (by kernel_rfl) ?_ _
              refine NoPanic.normal ?_
              have hrg := Lib.hid (range_made (w := w) (d1 := d1) (d2 := d2) l2 hb1 hb2 n1 n2 o1c o2c)
              have hbz := Lib.hid hHeld.2.2
              clear hHeld o1b o2b o1c o2c o2d c1 c2 c2b c1c f1c c2d f2d n1 n2
              go_wp2_with fail
              go_ret
              exact ⟨rfl, ⟨r1, r2, d1, d2, hrg.out⟩, hbz.out⟩
            exact AllReadyH.nil
          exact AllReadyH.nil
        exact AllReadyH.nil
      exact AllReadyH.nil
    refine stepH 2 rfl (by rfl) (fun K hK => ?_) ?_
    · go_simp
      refine hK.out _ _ ?_ (fun hNew => ?_)
      · (try dsimp only); first | exact hKS _ _ (by first | exact hHeld | exact hS) (by first | assumption | (go_grown; done) | (refine from_drew ?_; go_grown; done)) | exact hK1 _ _ hHeld | exact hK2 _ _ hHeld
      clear hK K hHeld
      have hHeld := hNew
      clear hNew
      try dsimp only at hHeld
      try simp only [Act.put, List.setIfInBounds_toArray, List.set_cons_zero, List.set_cons_succ]
      refine wpAnyH_ready (rs := [1]) (by kernel_rfl) (by simp) ?_
      refine stepH 1 rfl (by rfl) (fun K hK => ?_) ?_
      · go_simp
        ((with_reducible refine (Clone_at p c lo lo.length rfl _ ?_ hl).mono ?_); (exact h.keep hHeld.2.2); rintro e1 w1 ⟨⟨r1, d1, rfl, n1⟩, hb1⟩); have hb1 : Below wa.heap.size wa w1 := below_t (below_drewN _ wa _) hb1; have o1b := o1.keep hb1 l1; have o2b := o2.keep hb1 l2; have c2b := o2b.cell (i := 0) rfl; have l1b := o1b.lt; have l2b := o2b.lt
        refine hK.out _ _ ?_ (fun hNew => ?_)
        · (try dsimp only); first | exact hKS _ _ (by first | exact hHeld | exact hS) (by first | assumption | (go_grown; done) | (refine from_drew ?_; go_grown; done)) | exact hK1 _ _ hHeld | exact hK2 _ _ hHeld
        clear hK K hHeld
        have hHeld := hNew
        clear hNew
        try dsimp only at hHeld
        try simp only [Act.put, List.setIfInBounds_toArray, List.set_cons_zero, List.set_cons_succ]
        refine wpAnyH_ready (rs := [3]) (by kernel_rfl) (by simp) ?_
        refine stepH 3 rfl (by rfl) (fun K hK => ?_) ?_
        · go_simp
          ((with_reducible refine (Clone_at q f hi hi.length rfl _ ?_ hl').mono ?_); (exact h'.keep hHeld.2.2); rintro e2 w2 ⟨⟨r2, d2, rfl, n2⟩, hb2⟩); have o1c := o1b.keep hb2 l1b; have o2c := o2b.keep hb2 l2b; have c1c := o1c.cell (i := 0) rfl; have f1c := o1c.frozen 0; have o2d := o2c.other (a := ⟨w.heap.size, 0, none⟩) (by simp) (.slice r1 lo.length d1); have c2d := o2d.cell (i := 0) rfl; have f2d := o2d.frozen 0
          refine hK.out _ _ ?_ (fun hNew => ?_)
          · (try dsimp only); first | exact hKS _ _ (by first | exact hHeld | exact hS) (by first | assumption | (go_grown; done) | (refine from_drew ?_; go_grown; done)) | exact hK1 _ _ hHeld | exact hK2 _ _ hHeld
          clear hK K hHeld
          have hHeld := hNew
          clear hNew
          try dsimp only at hHeld
          try simp only [Act.put, List.setIfInBounds_toArray, List.set_cons_zero, List.set_cons_succ]
          refine wpAnyH_ready (rs := [4]) (by kernel_rfl) (by simp) ?_
          refine stepH 4 rfl (by rfl) (fun K hK => ?_) ?_
          · go_simp
            refine hK.out _ _ ?_ (fun hNew => ?_)
            · (try dsimp only); first | exact hKS _ _ (by first | exact hHeld | exact hS) (by first | assumption | (go_grown; done) | (refine from_drew ?_; go_grown; done)) | exact hK1 _ _ hHeld | exact hK2 _ _ hHeld
            clear hK K hHeld
            have hHeld := hNew
            clear hNew
            try dsimp only at hHeld
            try simp only [Act.put, List.setIfInBounds_toArray, List.set_cons_zero, List.set_cons_succ]
            refine wpAnyH_ready (rs := [5]) (by kernel_rfl) (by simp) ?_
            refine stepH 5 rfl (by rfl) (fun K hK => ?_) ?_
            · go_simp
              refine hK.out _ _ ?_ (fun hNew => ?_)
              · (try dsimp only); first | exact hKS _ _ (by first | exact hHeld | exact hS) (by first | assumption | (go_grown; done) | (refine from_drew ?_; go_grown; done)) | exact hK1 _ _ hHeld | exact hK2 _ _ hHeld
              clear hK K hHeld
              have hHeld := hNew
              clear hNew
              try dsimp only at hHeld
              try simp only [Act.put, List.setIfInBounds_toArray, List.set_cons_zero, List.set_cons_succ]
              refine wpAnyH_done (by kernel_rfl) ?_ _
              refine NoPanic.normal ?_
              have hrg := Lib.hid (range_made (w := w) (d1 := d1) (d2 := d2) l2 hb1 hb2 n1 n2 o1c o2c)
              have hbz := Lib.hid hHeld.2.2
              clear hHeld o1b o2b o1c o2c o2d c1 c2 c2b c1c f1c c2d f2d n1 n2
              go_wp2_with fail
              go_ret
              exact ⟨rfl, ⟨r1, r2, d1, d2, hrg.out⟩, hbz.out⟩
            exact AllReadyH.nil
          exact AllReadyH.nil
        exact AllReadyH.nil
      exact AllReadyH.nil
    exact AllReadyH.nil
  refine stepH 2 rfl (by rfl) (fun K hK => ?_) ?_
  · go_simp
    refine hK.out _ _ ?_ (fun hNew => ?_)
    · (try dsimp only); first | exact hKS _ _ (by first | exact hHeld | exact hS) (by first | assumption | (go_grown; done) | (refine from_drew ?_; go_grown; done)) | exact hK1 _ _ hHeld | exact hK2 _ _ hHeld
    clear hK K hHeld
    have hHeld := hNew
    clear hNew
    try dsimp only at hHeld
    try simp only [Act.put, List.setIfInBounds_toArray, List.set_cons_zero, List.set_cons_succ]
    refine wpAnyH_ready (rs := [0]) (by kernel_rfl) (by simp) ?_
    refine stepH 0 rfl (by rfl) (fun K hK => ?_) ?_
    · go_simp
      refine hK.out _ _ ?_ (fun hNew => ?_)
      · (try dsimp only); first | exact hKS _ _ (by first | exact hHeld | exact hS) (by first | assumption | (go_grown; done) | (refine from_drew ?_; go_grown; done)) | exact hK1 _ _ hHeld | exact hK2 _ _ hHeld
      clear hK K hHeld
      have hHeld := hNew
      clear hNew
      try dsimp only at hHeld
      try simp only [Act.put, List.setIfInBounds_toArray, List.set_cons_zero, List.set_cons_succ]
      refine wpAnyH_ready (rs := [1]) (by kernel_rfl) (by simp) ?_
      refine stepH 1 rfl (by rfl) (fun K hK => ?_) ?_
      · go_simp
        ((with_reducible refine (Clone_at p c lo lo.length rfl _ ?_ hl).mono ?_); (exact h.keep hHeld.2.2); rintro e1 w1 ⟨⟨r1, d1, rfl, n1⟩, hb1⟩); have hb1 : Below wa.heap.size wa w1 := below_t (below_drewN _ wa _) hb1; have o1b := o1.keep hb1 l1; have o2b := o2.keep hb1 l2; have c2b := o2b.cell (i := 0) rfl; have l1b := o1b.lt; have l2b := o2b.lt
        refine hK.out _ _ ?_ (fun hNew => ?_)
        · (try dsimp only); first | exact hKS _ _ (by first | exact hHeld | exact hS) (by first | assumption | (go_grown; done) | (refine from_drew ?_; go_grown; done)) | exact hK1 _ _ hHeld | exact hK2 _ _ hHeld
        clear hK K hHeld
        have hHeld := hNew
        clear hNew
        try dsimp only at hHeld
        try simp only [Act.put, List.setIfInBounds_toArray, List.set_cons_zero, List.set_cons_succ]
        refine wpAnyH_ready (rs := [3]) (by kernel_rfl) (by simp) ?_
        refine stepH 3 rfl (by rfl) (fun K hK => ?_) ?_
        · go_simp
          ((with_reducible refine (Clone_at q f hi hi.length rfl _ ?_ hl').mono ?_); (exact h'.keep hHeld.2.2); rintro e2 w2 ⟨⟨r2, d2, rfl, n2⟩, hb2⟩); have o1c := o1b.keep hb2 l1b; have o2c := o2b.keep hb2 l2b; have c1c := o1c.cell (i := 0) rfl; have f1c := o1c.frozen 0; have o2d := o2c.other (a := ⟨w.heap.size, 0, none⟩) (by simp) (.slice r1 lo.length d1); have c2d := o2d.cell (i := 0) rfl; have f2d := o2d.frozen 0
          refine hK.out _ _ ?_ (fun hNew => ?_)
          · (try dsimp only); first | exact hKS _ _ (by first | exact hHeld | exact hS) (by first | assumption | (go_grown; done) | (refine from_drew ?_; go_grown; done)) | exact hK1 _ _ hHeld | exact hK2 _ _ hHeld
          clear hK K hHeld
          have hHeld := hNew
          clear hNew
          try dsimp only at hHeld
          try simp only [Act.put, List.setIfInBounds_toArray, List.set_cons_zero, List.set_cons_succ]
          refine wpAnyH_ready (rs := [4]) (by kernel_rfl) (by simp) ?_
          refine stepH 4 rfl (by rfl) (fun K hK => ?_) ?_
          · go_simp
            refine hK.out _ _ ?_ (fun hNew => ?_)
            · (try dsimp only); first | exact hKS _ _ (by first | exact hHeld | exact hS) (by first | assumption | (go_grown; done) | (refine from_drew ?_; go_grown; done)) | exact hK1 _ _ hHeld | exact hK2 _ _ hHeld
            clear hK K hHeld
            have hHeld := hNew
            clear hNew
            try dsimp only at hHeld
            try simp only [Act.put, List.setIfInBounds_toArray, List.set_cons_zero, List.set_cons_succ]
            refine wpAnyH_ready (rs := [5]) (by kernel_rfl) (by simp) ?_
            refine stepH 5 rfl (by rfl) (fun K hK => ?_) ?_
            · go_simp
              refine hK.out _ _ ?_ (fun hNew => ?_)
              · (try dsimp only); first | exact hKS _ _ (by first | exact hHeld | exact hS) (by first | assumption | (go_grown; done) | (refine from_drew ?_; go_grown; done)) | exact hK1 _ _ hHeld | exact hK2 _ _ hHeld
              clear hK K hHeld
              have hHeld := hNew
              clear hNew
              try dsimp only at hHeld
              try simp only [Act.put, List.setIfInBounds_toArray, List.set_cons_zero, List.set_cons_succ]
              refine wpAnyH_done (by kernel_rfl) ?_ _
              refine NoPanic.normal ?_
              have hrg := Lib.hid (range_made (w := w) (d1 := d1) (d2 := d2) l2 hb1 hb2 n1 n2 o1c o2c)
              have hbz := Lib.hid hHeld.2.2
              clear hHeld o1b o2b o1c o2c o2d c1 c2 c2b c1c f1c c2d f2d n1 n2
              go_wp2_with fail
              go_ret
              exact ⟨rfl, ⟨r1, r2, d1, d2, hrg.out⟩, hbz.out⟩
            exact AllReadyH.nil
          exact AllReadyH.nil
        exact AllReadyH.nil
      exact AllReadyH.nil
    exact AllReadyH.nil
  exact AllReadyH.nil
end Go.Proofs.Ythkfjiioekhkhaa
