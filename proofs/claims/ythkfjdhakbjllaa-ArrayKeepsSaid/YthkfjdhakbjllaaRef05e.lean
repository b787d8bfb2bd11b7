/- The counter's call as the function value of Tabulate. -/
import Derived.Test.YthkfjdhakbjllaaRef05d
namespace Go.Proofs.Ythkfjdhakbjllaa
open Go.RowKit Go.Shelf
set_option linter.unusedVariables false

/-- a row that lies in the world and not in block g reads the same in a world that has the same blocks but g -/
theorem Ints.but {w W : World} {p : Option Addr} {xs : List Int} {g : Nat} (h : Ints w p xs) (hg : xs = [] ∨ ∀ x y, p = some ⟨x, y, none⟩ → x ≠ g) (hW : ∀ j, j < w.heap.size → j ≠ g → W.heap[j]? = w.heap[j]?) : Ints W p xs := by
  refine ⟨?_, h.i64, h.small⟩
  rcases hg with rfl | hg
  · exact .inl rfl
  · rcases h.cells with h' | ⟨b, off, hp, hlt, hcc⟩
    · exact .inl h'
    · have e := hW b hlt (hg _ _ hp)
      refine .inr ⟨b, off, hp, ?_, fun i u hu => (World.cell?_of_block (w := w) e).trans (hcc i u hu)⟩
      rw [Array.getElem?_eq_getElem hlt] at e
      exact (Array.getElem?_eq_some_iff.1 e).1

theorem call_gives (g : Nat) (p q : Option Addr) (c f : Nat) (s d : List Int) (w : World) (hz : shapeS s = 0) (hn : cellsS s = (d.length : Int)) (hg : g < w.heap.size)
    (h : Ints w p s) (h' : Ints w q d) (hp : s = [] ∨ ∀ x y, p = some ⟨x, y, none⟩ → x ≠ g) (hq : d = [] ∨ ∀ x y, q = some ⟨x, y, none⟩ → x ≠ g) :
    Gives 46 #[.pointer (some ⟨g, 0, none⟩)] #[] (some g) w.heap.size
      (fun k W => Ctr g p q c f s d k W ∧ ∀ j, j < w.heap.size → j ≠ g → W.heap[j]? = w.heap[j]?) (fun k => nth d k) s d.length := by
  have hb := (cellsS_bd s).2
  refine ⟨?_, ?_, ?_⟩
  · rintro k W W' ⟨⟨r, hc⟩, hW⟩ hj
    exact ⟨⟨r, (hj g hg).trans hc⟩, fun j h1 h2 => (hj j h1).trans (hW j h1 h2)⟩
  · intro k hk
    exact h'.i64 _ (nth_mem hk)
  · rintro k W r e hk hD ⟨hC, hW⟩ hr
    have hin : inS s (k : Int) = true := by simp [inS, hn]; omega
    obtain ⟨ho, hv, -⟩ := off_of_un hin
    have hro : roffS s (unoff s k) = k := (roffS_valid (of_decide_eq_true hv)).trans ho
    have hq' : ∀ x y, q = some ⟨x, y, none⟩ → x ≠ g := by
      rcases hq with rfl | hq
      · simp at hk
      · exact hq
    refine (call_yes g p q r c f e s d (unoff s k) k (shapeS_zero.1 hz) hro hk W hC (h.but hp hW) (h'.but hq hW) hr hq' (by omega)).mono ?_
    rintro z W' ⟨rfl, hC', hch⟩
    exact ⟨rfl, ⟨hC', fun j h1 h2 => (hch.block j (by omega) h2).trans (hW j h1 h2)⟩, hch.mono fun j hj => by rw [hj]⟩
end Go.Proofs.Ythkfjdhakbjllaa
