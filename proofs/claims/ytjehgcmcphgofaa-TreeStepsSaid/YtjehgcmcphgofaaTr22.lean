/- tree.Names: the names of a tree. No condition beyond what each says. -/
import Derived.Test.YtjehgcmcphgofaaTr21
import Derived.Maps.AppendAt
namespace Go.Proofs.Ytjehgcmcphgofaa
open Go.RowKit Go.Shelf
set_option linter.unusedVariables false
set_option linter.unusedSimpArgs false
attribute [local go_sem] Oper.semAt_some

theorem row_block' {a b : World} {B size n : Nat} {e : TypeId} {v : Value} {xs : List Value} (h : a.ownsRow B e size v n xs) (hb : ∀ j, v.ownBlock = some j → b.heap[j]? = a.heap[j]?) : b.ownsRow B e size v n xs := by
  obtain ⟨h1, h2⟩ := h
  refine ⟨h1, ?_⟩
  rcases h2 with h2 | ⟨g, cap, cur, rfl, h3, h4, h5⟩
  · exact .inl h2
  · exact .inr ⟨g, cap, cur, rfl, h3, (hb g rfl).trans h4, h5⟩
theorem row_lt {a : World} {B size n : Nat} {e : TypeId} {v : Value} {xs : List Value} (h : a.ownsRow B e size v n xs) {j : Nat} (hj : v.ownBlock = some j) : B ≤ j ∧ j < a.heap.size := by
  obtain ⟨h1, h2⟩ := h
  rcases h2 with ⟨rfl, -⟩ | ⟨g, cap, cur, rfl, h3, h4, h5⟩
  · cases hj
  · cases hj
    exact ⟨h3, (Array.getElem?_eq_some_iff.1 h4).1⟩
theorem row_text {W : World} {B size n : Nat} {e : TypeId} {v : Value} {xs : List Value} (h : W.ownsRow B e size v n xs) {j : Nat} (hj : v.ownBlock = some j) : ∃ vs q, W.heap[j]? = some (.cells vs e q) := by
  rcases h.2 with ⟨rfl, _⟩ | ⟨g, cap, cur, rfl, _, hgb, _⟩
  · cases hj
  · cases hj
    exact ⟨_, _, hgb⟩
theorem Own.block {W Z : World} {g : Nat} {e : TypeId} {vs : List Value} (h : Own W g e vs) (hk : Z.heap[g]? = W.heap[g]?) : Own Z g e vs := by
  obtain ⟨r, h'⟩ := h
  exact ⟨r, hk.trans h'⟩
theorem info_str : (Try.prog.info? 9).map (fun i => (i.zero, i.size, i.bytes)) = some (some (.string ⟨#[]⟩), 1, 16) := by kernel_rfl

def addN (acc : List ByteArray) (x : TV) : List ByteArray := if x.d.kind = 2 ∧ hasN acc x.d.name = false then acc ++ [x.d.name] else acc
/-- the names among some nodes, each once -/
def namesL (l : List TV) : List ByteArray := l.foldl addN []
theorem namesL_snoc (l : List TV) (x : TV) : namesL (l ++ [x]) = addN (namesL l) x := by simp [namesL]
theorem namesL_len (l : List TV) : (namesL l).length ≤ l.length := by
  suffices h : ∀ (l : List TV) acc, (l.foldl addN acc).length ≤ acc.length + l.length by simpa [namesL] using h l []
  intro l
  induction l with
  | nil => intro acc; simp
  | cons x l ih =>
    intro acc
    have := ih (addN acc x)
    have h2 : (addN acc x).length ≤ acc.length + 1 := by unfold addN; split <;> simp
    simp only [List.foldl_cons, List.length_cons]
    omega
/-- what is held between two rounds: the box X, the names that have come -/
structure NamI (w : World) (X N : Nat) (ns : List ByteArray) (W : World) (v : Value) : Prop where
  box : Own W X 35 [v]
  row : W.ownsRow N 9 1 v ns.length (ns.map .string)
  below : Below w.heap.size w W
  hX : w.heap.size ≤ X ∧ X < N
  hz : N ≤ W.heap.size
theorem NamI.turn {w : World} {X N : Nat} {ns : List ByteArray} {A B : World} {v : Value} {row : Option Nat} (h : NamI w X N ns A v) (hg : A.grownBy B row) (hr : ∀ r, row = some r → N ≤ r ∧ ∀ o, A.heap[r]? = some o → NoTexts o) : NamI w X N ns B v := by
  have hX := h.hX
  refine ⟨h.box.block (hg.block _ h.box.lt fun e => by have := (hr _ e.symm).1; omega), row_block' h.row fun j hj => hg.block j (row_lt h.row hj).2 fun e => ?_, h.below.grown hg h.below.size (fun k e => by have := (hr k e).1; omega), hX, Nat.le_trans h.hz hg.size⟩
  obtain ⟨vs, q, hq⟩ := row_text h.row hj
  exact (hr j e.symm).2 _ hq _ _ rfl
theorem NamI.abides {w : World} {X N : Nat} : AbidesT N (fun (pre : List TV) W => ∃ v, NamI w X N (namesL pre) W v) := fun s A B row ⟨v, h⟩ hg hr => ⟨v, h.turn hg hr⟩
theorem NamI.keep {w : World} {X N : Nat} {ns : List ByteArray} {A B : World} {v : Value} (h : NamI w X N ns A v) (hb : Below A.heap.size A B) : NamI w X N ns B v := h.turn (grown_of_below hb) fun r e => by cases e
theorem NamI.texts {w : World} {X N : Nat} {ns : List ByteArray} {W : World} {v : Value} (h : NamI w X N ns W v) (hs : ns.length ≤ 9223372036854775807) : ∃ p c, v = .slice p ns.length c ∧ Texts W p ns := by
  obtain ⟨p, c, hv, hn⟩ := row_new h.row
  rw [List.length_map] at hv
  exact ⟨p, c, hv, hn.cells, hs⟩
theorem NamI.next {w : World} {X N : Nat} {ns : List ByteArray} {W z : World} {v v' : Value} {o : Obj} {s : ByteArray} (h : NamI w X N ns W v) (hg : (W.alloc o).grownBy z v.ownBlock) (hrow : z.ownsRow N 9 1 v' (ns.length + 1) (ns.map .string ++ [.string s])) :
    Own z X 35 [v] ∧ NamI w X N (ns ++ [s]) (z.setCell ⟨X, 0, none⟩ v') v' ∧ KpS w.heap.size (fun k => N ≤ k) W (z.setCell ⟨X, 0, none⟩ v') := by
  have hX := h.hX
  have hk := h.keep (below_alloc W o)
  have hXv : some X ≠ v.ownBlock := fun e => by have := (row_lt h.row e.symm).1; omega
  have hbz : Own z X 35 [v] := hk.box.grown hg hXv
  have hzz := hg.size
  have hs := grownBy_setCell' z X v'
  have hss := hs.size
  have hb := hk.below.grown hg hk.below.size fun j hj => by have := (row_lt hk.row hj).1; omega
  refine ⟨hbz, ⟨hbz.set (i := 0) (by simp) v', ?_, hb.grown hs hb.size (fun j e => by cases e; omega), hX, by have := hk.hz; omega⟩, ?_⟩
  · rw [List.length_append, List.map_append]
    exact row_block' hrow fun j hj => Below.heap_setCell z ⟨X, 0, none⟩ v' j (by have := (row_lt hrow hj).1; show j ≠ X; omega)
  · refine ((KpS.of (below_alloc W o) h.below.size).trans (KpS.grown hg hk.below.size fun r e => ⟨by have := (row_lt hk.row e).1; omega, fun _ => row_text hk.row e⟩)).trans (KpS.grown hs hb.size fun r e => by cases e; exact ⟨hX.1, fun hh => by omega⟩)
end Go.Proofs.Ytjehgcmcphgofaa
