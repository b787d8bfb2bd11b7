/- What array.New and Vector make lies in new memory. No condition. -/
import Derived.Test.YthkfjdhakbjllaaLaw05b
namespace Go.Proofs.Ythkfjdhakbjllaa
open Go.RowKit Go.Shelf
set_option linter.unusedVariables false

/-- a row in memory from block B on, where it has cells at all -/
def Fresh (B : Nat) (p : Option Addr) (xs : List Int) : Prop := xs = [] ∨ ∃ g o, p = some ⟨g, o, none⟩ ∧ B ≤ g
theorem New.fresh {B B' : Nat} {w : World} {p : Option Addr} {e : TypeId} {xs : List Int} (h : New B w p e (xs.map (.int .i64))) (hB : B' ≤ B) : Fresh B' p xs := by
  rcases h with h | ⟨g, hp, hg, -⟩
  · exact .inl (by simpa using h)
  · exact .inr ⟨g, 0, hp, by omega⟩

set_option maxHeartbeats 1000000 in
theorem ArrayNew_fresh (s d : List Int) (hn : arrS s d = 0) (p q : Option Addr) (c f : Nat) (w : World) (h : Ints w p s) (h' : Ints w q d) (hl : s.length ≤ 1099511627776) (hl' : d.length ≤ 1099511627776) :
    Calls Try.prog 35 #[.slice p s.length c, .slice q d.length f] w fun e w' =>
      (∃ p' c' q' f', e = .returned (.tuple #[.agg #[.slice p' s.length c', .slice q' d.length f'], .int .i64 0]) ∧ Ints w' p' s ∧ Ints w' q' d ∧ Fresh w.heap.size p' s ∧ Fresh w.heap.size q' d) ∧ Below w.heap.size w w' := by
  have Hn := Lib.hid hn
  clear hn
  go_enter Try.func35, Try.ntmps35
  go_wp2_with fail
  refine (ArrayCopy_any p q c f s d _ (h.keep (below_alloc _ _)) (h'.keep (below_alloc _ _)) hl hl').mono ?_
  rintro e w1 ⟨⟨p', c', q', f', rfl, hn1, hn2⟩, hb1⟩
  have hr1 := hb1.cell (p := ⟨w.heap.size, 0, none⟩) (by simp)
  have hr2 := hb1.cell (p := ⟨w.heap.size, 1, none⟩) (by simp)
  have hf1 := hb1.frozen (p := ⟨w.heap.size, 0, none⟩) (by simp)
  have hf2 := hb1.frozen (p := ⟨w.heap.size, 1, none⟩) (by simp)
  have hz1 := hb1.size
  simp [go_sem] at hr1 hr2 hf1 hf2 hz1
  have hi1 := hn1.ints' h
  have hi2 := hn2.ints' h'
  have hbw := below_1 hb1
  clear hb1
  go_wp2_with fail
  refine (ArrayCheck_is s d 0 Hn.out p' q' c' f' _ (hi1.keep (below_alloc _ _)) (hi2.keep (below_alloc _ _))).mono ?_
  rintro e w2 ⟨rfl, hb2⟩
  have hx1 := hb2.cell (p := ⟨w1.heap.size, 0, none⟩) (by simp)
  have hx2 := hb2.cell (p := ⟨w1.heap.size, 1, none⟩) (by simp)
  simp [go_sem] at hx1 hx2
  have hb12 := below_1 hb2
  have hr1 := (hb12.cell (p := ⟨w.heap.size, 0, none⟩) (by show w.heap.size < _; omega)).trans hr1
  have hr2 := (hb12.cell (p := ⟨w.heap.size, 1, none⟩) (by show w.heap.size < _; omega)).trans hr2
  have hf1 := (hb12.frozen (p := ⟨w.heap.size, 0, none⟩) (by show w.heap.size < _; omega)).trans hf1
  have hf2 := (hb12.frozen (p := ⟨w.heap.size, 1, none⟩) (by show w.heap.size < _; omega)).trans hf2
  have hn1 := hn1.keep' hb12
  have hn2 := hn2.keep' hb12
  have hbw2 := below_t hbw hb12
  have hne : ¬ w1.heap.size = w.heap.size := by omega
  clear hb12 hb2 hbw
  go_wp2_with fail
  refine bodyPost_ret (v := .tuple #[.agg #[.slice p' s.length c', .slice q' d.length f'], .int .i64 0]) (by simp [results, Try.results35, go_sem, hr1, hr2]) rfl ?_
  refine ⟨⟨p', c', q', f', rfl, ?_, ?_, ?_, ?_⟩, ?_⟩
  · exact ((hn1.other (by simp) _).other (by simp) _).ints' h
  · exact ((hn2.other (by simp) _).other (by simp) _).ints' h'
  · exact hn1.fresh (by simp)
  · exact hn2.fresh (by simp)
  · exact (hbw2.setCell (Nat.le_refl _) _).setCell (Nat.le_refl _) _

theorem ArrayVector_fresh (p : Option Addr) (c : Nat) (xs : List Int) (w : World) (h : Ints w p xs) (hl : xs.length ≤ 1099511627776) :
    Calls Try.prog 41 #[.slice p xs.length c] w fun e w' => (∃ p' c' q f, e = .returned (.agg #[.slice p' 1 c', .slice q xs.length f]) ∧ Ints w' p' [(xs.length : Int)] ∧ Ints w' q xs ∧ Fresh w.heap.size p' [(xs.length : Int)] ∧ Fresh w.heap.size q xs) ∧ Below w.heap.size w w' := by
  go_enter Try.func41, Try.ntmps41
  go_wp2_with fail
  refine (copied_int64_any _ _ xs _ (h.keep (below_two _ _ _)) hl).mono ?_
  rintro e w1 ⟨⟨q, f, rfl, hn⟩, hb1⟩
  have hr1 := hb1.cell (p := ⟨w.heap.size, 0, none⟩) (lt_a0 _ _ _)
  have hr2 := hb1.cell (p := ⟨w.heap.size, 1, none⟩) (lt_a0 _ _ _)
  have hf1 := hb1.frozen (p := ⟨w.heap.size, 0, none⟩) (lt_a0 _ _ _)
  have hf2 := hb1.frozen (p := ⟨w.heap.size, 1, none⟩) (lt_a0 _ _ _)
  have hx := hb1.cell (p := ⟨w.heap.size + 1, 0, none⟩) (lt_a1 _ _ _)
  simp [go_sem] at hr1 hr2 hf1 hf2 hx
  have hbw := below_2 hb1
  have hne : ¬ w.heap.size + 1 = w.heap.size := by omega
  have hs := h.small
  go_wp2_with fail
  refine bodyPost_ret (v := .agg #[.slice (some ⟨w.heap.size + 1, 0, none⟩) 1 1, .slice q xs.length f]) (by simp [results, Try.results41, go_sem, hr1, hr2]) rfl ?_
  refine ⟨⟨_, 1, q, f, rfl, ?_, ?_, .inr ⟨_, 0, rfl, by omega⟩, hn.fresh (by simp; omega)⟩, ?_⟩
  · exact Ints.one (by simp [go_sem, hx]) ⟨by omega, by omega⟩
  · exact ((hn.other (lt_a0 _ _ _) _).other (lt_a0 _ _ _) _).ints' h
  · exact (hbw.setCell (Nat.le_refl _) _).setCell (Nat.le_refl _) _
end Go.Proofs.Ythkfjdhakbjllaa
