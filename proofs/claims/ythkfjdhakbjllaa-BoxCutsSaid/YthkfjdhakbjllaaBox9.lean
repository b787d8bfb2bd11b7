/- What two boxes have in common, in the reference: one round of its loop. No condition beyond what each says. -/
import Derived.Test.YthkfjdhakbjllaaBox8
import Derived.Test.YthkfjdhakbjllaaKeep6
namespace Go.Proofs.Ythkfjdhakbjllaa
open Go.RowKit Go.Shelf
set_option linter.unusedVariables false
set_option linter.unusedSimpArgs false

/-- the reference's variables, and its rows under way -/
structure MeetSt (w : World) (A1 A2 B1 B2 : Value) (L H : List Int) (k1 k2 : Nat) (v1 v2 : Value) (wr : World) : Prop where
  a : Own wr w.heap.size 65 [A1, A2]
  b : Own wr (w.heap.size + 1) 65 [B1, B2]
  r : Own wr (w.heap.size + 2) 65 [.slice none 0 0, .slice none 0 0]
  c : Own wr (w.heap.size + 3) 65 [v1, v2]
  two : Two (w.heap.size + 4) wr v1 v2 k1 k2 (L.take k1) (H.take k2)
  size : w.heap.size + 4 ≤ wr.heap.size
  below : Below w.heap.size w wr
theorem MeetSt.keep {w : World} {A1 A2 B1 B2 : Value} {L H : List Int} {k1 k2 : Nat} {v1 v2 : Value} {a z : World} (h : MeetSt w A1 A2 B1 B2 L H k1 k2 v1 v2 a) (hb : Below a.heap.size a z) : MeetSt w A1 A2 B1 B2 L H k1 k2 v1 v2 z :=
  ⟨h.a.keep hb h.a.lt, h.b.keep hb h.b.lt, h.r.keep hb h.r.lt, h.c.keep hb h.c.lt, h.two.keep hb, Nat.le_trans h.size hb.size, below_t h.below hb⟩
theorem MeetSt.drew {w : World} {A1 A2 B1 B2 : Value} {L H : List Int} {k1 k2 : Nat} {v1 v2 : Value} {a : World} (h : MeetSt w A1 A2 B1 B2 L H k1 k2 v1 v2 a) (n : Nat) : MeetSt w A1 A2 B1 B2 L H k1 k2 v1 v2 (a.drewN n) := h.keep (below_drewN _ _ _)
theorem MeetSt.next1 {w : World} {A1 A2 B1 B2 : Value} {L H : List Int} {k1 k2 : Nat} {v1 v2 : Value} {a z : World} {o : Obj} {g cap : Nat} {x : Int} (h : MeetSt w A1 A2 B1 B2 L H k1 k2 v1 v2 a) (hk : k1 < L.length) (hx : nth L k1 = x) (hg : (a.alloc o).grownBy z v1.ownBlock)
    (hr : z.ownsRow (w.heap.size + 4) 3 1 (.slice (some ⟨g, 0, none⟩) (k1 + 1) cap) (k1 + 1) ((L.take k1).map (.int .i64) ++ [.int .i64 x])) (hw : v1.ownBlock = some g ∨ g = (a.alloc o).heap.size) :
    MeetSt w A1 A2 B1 B2 L H (k1 + 1) k2 (.slice (some ⟨g, 0, none⟩) (k1 + 1) cap) v2 (z.setCell ⟨w.heap.size + 3, 0, none⟩ (.slice (some ⟨g, 0, none⟩) (k1 + 1) cap)) := by
  have ha := h.keep (below_alloc a o)
  have hlt : ∀ j, j < w.heap.size + 4 → some j ≠ v1.ownBlock := fun j hj e => by have := (row_lt h.two.r1 e.symm).1; omega
  have two := h.two.next hg hr hw
  refine ⟨?_, ?_, ?_, ?_, ?_, ?_, ?_⟩
  · exact (ha.a.grown hg (hlt _ (by omega))).other (a := ⟨w.heap.size + 3, 0, none⟩) (by show w.heap.size + 3 ≠ _; omega) _
  · exact (ha.b.grown hg (hlt _ (by omega))).other (a := ⟨w.heap.size + 3, 0, none⟩) (by show w.heap.size + 3 ≠ _; omega) _
  · exact (ha.r.grown hg (hlt _ (by omega))).other (a := ⟨w.heap.size + 3, 0, none⟩) (by show w.heap.size + 3 ≠ _; omega) _
  · exact (ha.c.grown hg (hlt _ (by omega))).set (i := 0) (by simp) _
  · have e : L.take (k1 + 1) = L.take k1 ++ [x] := by rw [take_nth hk, hx]
    rw [e]
    exact two.set (by omega) 0 _
  · have := hg.size
    have := h.size
    simp at *
    omega
  · exact below_set (ha.below.grown hg ha.below.size fun j hj => by have := (row_lt h.two.r1 hj).1; omega) (by omega) 0 _
theorem MeetSt.next2 {w : World} {A1 A2 B1 B2 : Value} {L H : List Int} {k1 k2 : Nat} {v1 v2 : Value} {a z : World} {o : Obj} {g cap : Nat} {x : Int} (h : MeetSt w A1 A2 B1 B2 L H k1 k2 v1 v2 a) (hk : k2 < H.length) (hx : nth H k2 = x) (hg : (a.alloc o).grownBy z v2.ownBlock)
    (hr : z.ownsRow (w.heap.size + 4) 3 1 (.slice (some ⟨g, 0, none⟩) (k2 + 1) cap) (k2 + 1) ((H.take k2).map (.int .i64) ++ [.int .i64 x])) (hw : v2.ownBlock = some g ∨ g = (a.alloc o).heap.size) :
    MeetSt w A1 A2 B1 B2 L H k1 (k2 + 1) v1 (.slice (some ⟨g, 0, none⟩) (k2 + 1) cap) (z.setCell ⟨w.heap.size + 3, 1, none⟩ (.slice (some ⟨g, 0, none⟩) (k2 + 1) cap)) := by
  have ha := h.keep (below_alloc a o)
  have hlt : ∀ j, j < w.heap.size + 4 → some j ≠ v2.ownBlock := fun j hj e => by have := (row_lt h.two.r2 e.symm).1; omega
  have two := (h.two.swap.next hg hr hw).swap
  refine ⟨?_, ?_, ?_, ?_, ?_, ?_, ?_⟩
  · exact (ha.a.grown hg (hlt _ (by omega))).other (a := ⟨w.heap.size + 3, 1, none⟩) (by show w.heap.size + 3 ≠ _; omega) _
  · exact (ha.b.grown hg (hlt _ (by omega))).other (a := ⟨w.heap.size + 3, 1, none⟩) (by show w.heap.size + 3 ≠ _; omega) _
  · exact (ha.r.grown hg (hlt _ (by omega))).other (a := ⟨w.heap.size + 3, 1, none⟩) (by show w.heap.size + 3 ≠ _; omega) _
  · exact (ha.c.grown hg (hlt _ (by omega))).set (i := 1) (by simp) _
  · have e : H.take (k2 + 1) = H.take k2 ++ [x] := by rw [take_nth hk, hx]
    rw [e]
    exact two.set (by omega) 1 _
  · have := hg.size
    have := h.size
    simp at *
    omega
  · exact below_set (ha.below.grown hg ha.below.size fun j hj => by have := (row_lt h.two.r2 hj).1; omega) (by omega) 1 _
theorem MeetSt.mid {w : World} {A1 A2 B1 B2 : Value} {L H : List Int} {k1 k2 : Nat} {v1 v2 : Value} {a z : World} {o : Obj} {R : Option Nat} (h : MeetSt w A1 A2 B1 B2 L H k1 k2 v1 v2 a) (hg : (a.alloc o).grownBy z R) (hR : R = v1.ownBlock ∨ R = v2.ownBlock) :
    Own z w.heap.size 65 [A1, A2] ∧ Own z (w.heap.size + 1) 65 [B1, B2] ∧ Own z (w.heap.size + 3) 65 [v1, v2] ∧ Below w.heap.size w z := by
  have ha := h.keep (below_alloc a o)
  have hge : ∀ j, R = some j → w.heap.size + 4 ≤ j := fun j hj => by
    rcases hR with e | e
    · exact (row_lt h.two.r1 (e.symm.trans hj)).1
    · exact (row_lt h.two.r2 (e.symm.trans hj)).1
  have hlt : ∀ j, j < w.heap.size + 4 → some j ≠ R := fun j hj e => by have := hge j e.symm; omega
  exact ⟨ha.a.grown hg (hlt _ (by omega)), ha.b.grown hg (hlt _ (by omega)), ha.c.grown hg (hlt _ (by omega)), ha.below.grown hg ha.below.size fun j hj => by have := hge j hj; omega⟩
end Go.Proofs.Ythkfjdhakbjllaa
