/- Two rows of numbers that grow side by side. No condition beyond what each says. -/
import Derived.Test.YthkfjdhakbjllaaBox7
import Derived.Deep.AppendLies
namespace Go.Proofs.Ythkfjdhakbjllaa
open Go.RowKit Go.Shelf
set_option linter.unusedVariables false
set_option linter.unusedSimpArgs false

theorem row_block' {a b : World} {B size n : Nat} {e : TypeId} {v : Value} {xs : List Value} (h : a.ownsRow B e size v n xs) (hb : ∀ j, v.ownBlock = some j → b.heap[j]? = a.heap[j]?) : b.ownsRow B e size v n xs := by
  obtain ⟨h1, h2⟩ := h
  refine ⟨h1, ?_⟩
  rcases h2 with h2 | ⟨g, cap, cur, rfl, h3, h4, h5⟩
  · exact .inl h2
  · exact .inr ⟨g, cap, cur, rfl, h3, (hb g rfl).trans h4, h5⟩
theorem row_lt {a : World} {B size n : Nat} {e : TypeId} {v : Value} {xs : List Value} (h : a.ownsRow B e size v n xs) {j : Nat} (hj : v.ownBlock = some j) : B ≤ j ∧ j < a.heap.size := by
  obtain ⟨h1, h2⟩ := h
  rcases h2 with ⟨rfl, -⟩ | ⟨g, cap, cur, rfl, h3, h4, h5⟩
  · cases hj
  · cases hj
    exact ⟨h3, (Array.getElem?_eq_some_iff.1 h4).1⟩

/-- two rows in blocks from B on that lie apart -/
structure Two (B : Nat) (w : World) (v1 v2 : Value) (n1 n2 : Nat) (xs ys : List Int) : Prop where
  r1 : w.ownsRow B 3 1 v1 n1 (xs.map (.int .i64))
  r2 : w.ownsRow B 3 1 v2 n2 (ys.map (.int .i64))
  apart : ∀ j, v1.ownBlock = some j → v2.ownBlock ≠ some j
theorem Two.nil (B : Nat) (w : World) : Two B w (.slice none 0 0) (.slice none 0 0) 0 0 [] [] := ⟨World.ownsRow_nil _ _ _ _, World.ownsRow_nil _ _ _ _, fun j hj => by cases hj⟩
theorem Two.swap {B n1 n2 : Nat} {w : World} {v1 v2 : Value} {xs ys : List Int} (h : Two B w v1 v2 n1 n2 xs ys) : Two B w v2 v1 n2 n1 ys xs := ⟨h.r2, h.r1, fun j h1 h2 => h.apart j h2 h1⟩
theorem Two.keep {B n1 n2 : Nat} {a b : World} {v1 v2 : Value} {xs ys : List Int} (h : Two B a v1 v2 n1 n2 xs ys) (hb : Below a.heap.size a b) : Two B b v1 v2 n1 n2 xs ys :=
  ⟨row_block' h.r1 fun j hj => hb.block j (row_lt h.r1 hj).2, row_block' h.r2 fun j hj => hb.block j (row_lt h.r2 hj).2, h.apart⟩
theorem Two.set {B n1 n2 : Nat} {a : World} {v1 v2 : Value} {xs ys : List Int} (h : Two B a v1 v2 n1 n2 xs ys) {g : Nat} (hg : g < B) (i : Nat) (u : Value) : Two B (a.setCell ⟨g, i, none⟩ u) v1 v2 n1 n2 xs ys :=
  ⟨row_block' h.r1 fun j hj => Below.heap_setCell _ _ _ _ (by have := (row_lt h.r1 hj).1; show j ≠ g; omega), row_block' h.r2 fun j hj => Below.heap_setCell _ _ _ _ (by have := (row_lt h.r2 hj).1; show j ≠ g; omega), h.apart⟩
theorem Two.next {B n1 n2 g cap : Nat} {a b : World} {v1 v2 : Value} {xs ys : List Int} {o : Obj} {x : Int} (h : Two B a v1 v2 n1 n2 xs ys) (hg : (a.alloc o).grownBy b v1.ownBlock)
    (hr : b.ownsRow B 3 1 (.slice (some ⟨g, 0, none⟩) (n1 + 1) cap) (n1 + 1) (xs.map (.int .i64) ++ [.int .i64 x])) (hw : v1.ownBlock = some g ∨ g = (a.alloc o).heap.size) : Two B b (.slice (some ⟨g, 0, none⟩) (n1 + 1) cap) v2 (n1 + 1) n2 (xs ++ [x]) ys := by
  have ha := h.keep (below_alloc a o)
  refine ⟨by rw [List.map_append]; exact hr, row_block' ha.r2 fun j hj => hg.block j (row_lt ha.r2 hj).2 fun e => h.apart j e.symm hj, fun j hj => ?_⟩
  cases hj
  intro hj
  rcases hw with hw | hw
  · exact h.apart _ hw hj
  · have := (row_lt ha.r2 hj).2
    show False
    exact absurd hw (by show ¬ g = _; exact Nat.ne_of_lt this)
theorem Two.below {B n1 n2 : Nat} {w a b : World} {v1 v2 : Value} {xs ys : List Int} {o : Obj} (h : Two B a v1 v2 n1 n2 xs ys) (hb : Below B w a) (hB : B ≤ a.heap.size) (hg : (a.alloc o).grownBy b v1.ownBlock) : Below B w b :=
  (hb.alloc hB o).grown hg (by simp; omega) fun j hj => (row_lt h.r1 hj).1
end Go.Proofs.Ythkfjdhakbjllaa
