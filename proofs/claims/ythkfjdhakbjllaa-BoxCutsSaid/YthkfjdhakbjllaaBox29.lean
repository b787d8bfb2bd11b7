/- What is left of a box without another one, in the reference: the state of its loops. No condition beyond what each says. -/
import Derived.Test.YthkfjdhakbjllaaBox28
namespace Go.Proofs.Ythkfjdhakbjllaa
open Go.RowKit Go.Shelf
set_option linter.unusedVariables false
set_option linter.unusedSimpArgs false

/-- a part under way: its rows have the first k1, k2 numbers -/
structure CutSt (W : World) (L H : List Int) (k1 k2 : Nat) (v1 v2 : Value) (wr : World) : Prop where
  x : Own wr W.heap.size 65 [v1, v2]
  two : Two (W.heap.size + 1) wr v1 v2 k1 k2 (L.take k1) (H.take k2)
  size : W.heap.size + 1 ≤ wr.heap.size
  below : Below W.heap.size W wr
theorem CutSt.start (W : World) (L H : List Int) : CutSt W L H 0 0 (.slice none 0 0) (.slice none 0 0) (W.alloc (.cells #[.slice none 0 0, .slice none 0 0] 65)) :=
  ⟨Own.made W _ [.slice none 0 0, .slice none 0 0] 65 rfl, Two.nil _ _, by simp, below_alloc _ _⟩
theorem CutSt.keep {W : World} {L H : List Int} {k1 k2 : Nat} {v1 v2 : Value} {a z : World} (h : CutSt W L H k1 k2 v1 v2 a) (hb : Below a.heap.size a z) : CutSt W L H k1 k2 v1 v2 z :=
  ⟨h.x.keep hb h.x.lt, h.two.keep hb, Nat.le_trans h.size hb.size, below_t h.below hb⟩
theorem CutSt.next1 {W : World} {L H : List Int} {k1 k2 : Nat} {v1 v2 : Value} {a z : World} {o : Obj} {g cap : Nat} {y : Int} (h : CutSt W L H k1 k2 v1 v2 a) (hk : k1 < L.length) (hx : nth L k1 = y) (hg : (a.alloc o).grownBy z v1.ownBlock)
    (hr : z.ownsRow (W.heap.size + 1) 3 1 (.slice (some ⟨g, 0, none⟩) (k1 + 1) cap) (k1 + 1) ((L.take k1).map (.int .i64) ++ [.int .i64 y])) (hw : v1.ownBlock = some g ∨ g = (a.alloc o).heap.size) :
    CutSt W L H (k1 + 1) k2 (.slice (some ⟨g, 0, none⟩) (k1 + 1) cap) v2 (z.setCell ⟨W.heap.size, 0, none⟩ (.slice (some ⟨g, 0, none⟩) (k1 + 1) cap)) := by
  have ha := h.keep (below_alloc a o)
  have hlt : ∀ j, j < W.heap.size + 1 → some j ≠ v1.ownBlock := fun j hj e => by have := (row_lt h.two.r1 e.symm).1; omega
  have two := h.two.next hg hr hw
  refine ⟨?_, ?_, ?_, ?_⟩
  · exact (ha.x.grown hg (hlt _ (by omega))).set (i := 0) (by simp) _
  · have e : L.take (k1 + 1) = L.take k1 ++ [y] := by rw [take_nth hk, hx]
    rw [e]
    exact two.set (by omega) 0 _
  · have := hg.size
    have := h.size
    simp at *
    omega
  · exact below_set (ha.below.grown hg ha.below.size fun j hj => by have := (row_lt h.two.r1 hj).1; omega) (by omega) 0 _
theorem CutSt.next2 {W : World} {L H : List Int} {k1 k2 : Nat} {v1 v2 : Value} {a z : World} {o : Obj} {g cap : Nat} {y : Int} (h : CutSt W L H k1 k2 v1 v2 a) (hk : k2 < H.length) (hx : nth H k2 = y) (hg : (a.alloc o).grownBy z v2.ownBlock)
    (hr : z.ownsRow (W.heap.size + 1) 3 1 (.slice (some ⟨g, 0, none⟩) (k2 + 1) cap) (k2 + 1) ((H.take k2).map (.int .i64) ++ [.int .i64 y])) (hw : v2.ownBlock = some g ∨ g = (a.alloc o).heap.size) :
    CutSt W L H k1 (k2 + 1) v1 (.slice (some ⟨g, 0, none⟩) (k2 + 1) cap) (z.setCell ⟨W.heap.size, 1, none⟩ (.slice (some ⟨g, 0, none⟩) (k2 + 1) cap)) := by
  have ha := h.keep (below_alloc a o)
  have hlt : ∀ j, j < W.heap.size + 1 → some j ≠ v2.ownBlock := fun j hj e => by have := (row_lt h.two.r2 e.symm).1; omega
  have two := (h.two.swap.next hg hr hw).swap
  refine ⟨?_, ?_, ?_, ?_⟩
  · exact (ha.x.grown hg (hlt _ (by omega))).set (i := 1) (by simp) _
  · have e : H.take (k2 + 1) = H.take k2 ++ [y] := by rw [take_nth hk, hx]
    rw [e]
    exact two.set (by omega) 1 _
  · have := hg.size
    have := h.size
    simp at *
    omega
  · exact below_set (ha.below.grown hg ha.below.size fun j hj => by have := (row_lt h.two.r2 hj).1; omega) (by omega) 1 _
/-- the box's own cells behind an append -/
theorem CutSt.mid {W : World} {L H : List Int} {k1 k2 : Nat} {v1 v2 : Value} {a z : World} {o : Obj} {R : Option Nat} (h : CutSt W L H k1 k2 v1 v2 a) (hg : (a.alloc o).grownBy z R) (hR : R = v1.ownBlock ∨ R = v2.ownBlock) : Own z W.heap.size 65 [v1, v2] := by
  have ha := h.keep (below_alloc a o)
  refine ha.x.grown hg fun e => ?_
  rcases hR with r | r
  · have := (row_lt h.two.r1 (r.symm.trans e.symm)).1
    omega
  · have := (row_lt h.two.r2 (r.symm.trans e.symm)).1
    omega

/-- the loops' state: out has the boxes L -/
structure MinR (w : World) (B n : Nat) (A1 A2 : Value) (g5 : Nat) (pc qc : Option Addr) (cc fc : Nat) (clo chi : List Int) (L : List Bx) (v : Value) (bs : List BoxV) (wr : World) : Prop where
  a : Own wr w.heap.size 65 [A1, A2]
  cv : Own wr g5 65 [.slice pc n cc, .slice qc n fc]
  cl : New w.heap.size wr pc 3 (clo.map (.int .i64))
  ch : New w.heap.size wr qc 3 (chi.map (.int .i64))
  out : wr.ownsRow B 65 2 v bs.length (flatB bs)
  rows : NewsB w.heap.size wr bs
  val : bs.map BoxV.bx = L
  below : Below w.heap.size w wr
  size : B ≤ wr.heap.size
  blocks : w.heap.size + 2 ≤ g5 ∧ g5 < B
theorem MinR.keep {w : World} {B n : Nat} {A1 A2 : Value} {g5 : Nat} {pc qc : Option Addr} {cc fc : Nat} {clo chi : List Int} {L : List Bx} {v : Value} {bs : List BoxV} {a z : World} (h : MinR w B n A1 A2 g5 pc qc cc fc clo chi L v bs a) (hb : Below a.heap.size a z) : MinR w B n A1 A2 g5 pc qc cc fc clo chi L v bs z :=
  ⟨h.a.keep hb h.a.lt, h.cv.keep hb h.cv.lt, h.cl.keep' hb, h.ch.keep' hb, row_keep h.out hb, h.rows.keep hb, h.val, below_t h.below hb, Nat.le_trans h.size hb.size, h.blocks⟩
theorem flatB_snoc {bs : List BoxV} {b : BoxV} : flatB (bs ++ [b]) = flatB bs ++ b.vals := by simp [flatB, List.flatMap_append]
/-- out grows -/
theorem MinR.app {w : World} {B n : Nat} {A1 A2 : Value} {g5 : Nat} {pc qc : Option Addr} {cc fc : Nat} {clo chi : List Int} {L : List Bx} {v v' : Value} {bs : List BoxV} {a z : World} {o : Obj} {b : BoxV} (h : MinR w B n A1 A2 g5 pc qc cc fc clo chi L v bs a) (hg : (a.alloc o).grownBy z v.ownBlock)
    (hr : z.ownsRow B 65 2 v' (bs.length + 1) (flatB bs ++ b.vals)) (h1 : New w.heap.size a b.p 3 (b.lo.map (.int .i64))) (h2 : New w.heap.size a b.q 3 (b.hi.map (.int .i64))) : MinR w B n A1 A2 g5 pc qc cc fc clo chi (L ++ [b.bx]) v' (bs ++ [b]) z := by
  have hb := below_alloc a o
  have k := h.keep hb
  have hlt : ∀ g, g < B → some g ≠ v.ownBlock := fun g hgB e => by have := (row_lt h.out e.symm).1; omega
  have hbl := h.blocks
  refine ⟨k.a.grown hg (hlt _ (by omega)), k.cv.grown hg (hlt _ (by omega)), k.cl.grownQ k.out hg, k.ch.grownQ k.out hg, ?_, ?_, by rw [List.map_append, h.val]; rfl, ?_, ?_, hbl⟩
  · rw [List.length_append, flatB_snoc]
    exact hr
  · intro x hx
    rcases List.mem_append.1 hx with hx | hx
    · exact ⟨(k.rows x hx).1.grownQ k.out hg, (k.rows x hx).2.grownQ k.out hg⟩
    · rw [List.mem_singleton] at hx
      subst hx
      exact ⟨(h1.keep' hb).grownQ k.out hg, (h2.keep' hb).grownQ k.out hg⟩
  · exact k.below.grown hg k.below.size fun g e => by have := (row_lt h.out e).1; omega
  · have := hg.size
    have := k.size
    omega
/-- the parts of the first k axes, and of the next one the first sd sides -/
def sideX (alo ahi clo chi : List Int) (k sd : Nat) : List Bx := cutsX alo ahi clo chi k ++ ([cutX alo ahi clo chi k false, cutX alo ahi clo chi k true].take sd).filter fullB
theorem sideX_zero {alo ahi clo chi : List Int} {k : Nat} : sideX alo ahi clo chi k 0 = cutsX alo ahi clo chi k := by simp [sideX]
theorem sideX_two {alo ahi clo chi : List Int} {k : Nat} : sideX alo ahi clo chi k 2 = cutsX alo ahi clo chi (k + 1) := by rw [cutsX_next]; simp [sideX]
theorem sideX_yes {alo ahi clo chi : List Int} {k sd : Nat} (hs : sd < 2) (h : fullB (cutX alo ahi clo chi k (decide (sd = 1))) = true) : sideX alo ahi clo chi k (sd + 1) = sideX alo ahi clo chi k sd ++ [cutX alo ahi clo chi k (decide (sd = 1))] := by
  unfold sideX
  match sd, hs with
  | 0, _ => have h : fullB (cutX alo ahi clo chi k false) = true := h; simp [h]
  | 1, _ => have h : fullB (cutX alo ahi clo chi k true) = true := h; simp [h, List.filter_cons]; split <;> simp
theorem sideX_no {alo ahi clo chi : List Int} {k sd : Nat} (hs : sd < 2) (h : fullB (cutX alo ahi clo chi k (decide (sd = 1))) = false) : sideX alo ahi clo chi k (sd + 1) = sideX alo ahi clo chi k sd := by
  unfold sideX
  match sd, hs with
  | 0, _ => have h : fullB (cutX alo ahi clo chi k false) = false := h; simp [h]
  | 1, _ => have h : fullB (cutX alo ahi clo chi k true) = false := h; simp [h, List.filter_cons]
theorem cutX_lens {alo ahi clo chi : List Int} {n k : Nat} {sd : Bool} (e1 : alo.length = n) (e2 : ahi.length = n) (e3 : clo.length = n) (e4 : chi.length = n) (hk : k < n) : (cutX alo ahi clo chi k sd).1.length = n ∧ (cutX alo ahi clo chi k sd).2.length = n := by
  unfold cutX
  constructor <;> simp <;> omega
/-- the numbers of a part -/
theorem cutX_nths {alo ahi clo chi : List Int} {n k : Nat} {sd : Bool} (e1 : alo.length = n) (e2 : ahi.length = n) (e3 : clo.length = n) (e4 : chi.length = n) (hk : k < n) {j : Nat} (hj : j < n) :
    nth (cutX alo ahi clo chi k sd).1 j = (if j < k then nth clo j else if j = k then (if sd then nth chi k else nth alo k) else nth alo j) ∧ nth (cutX alo ahi clo chi k sd).2 j = (if j < k then nth chi j else if j = k then (if sd then nth ahi k else nth clo k) else nth ahi j) :=
  ⟨cut_nth (by omega) (by omega) j (by omega), cut_nth (by omega) (by omega) j (by omega)⟩
end Go.Proofs.Ythkfjdhakbjllaa
