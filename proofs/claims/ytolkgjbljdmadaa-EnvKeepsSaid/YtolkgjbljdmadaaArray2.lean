/- What array.Copy, New, Scalar, Vector, At and Equal return. -/
import Derived.Test.YtolkgjbljdmadaaArray
namespace Go.Proofs.Ytolkgjbljdmadaa
open Go.RowKit Go.Shelf
set_option linter.unusedVariables false

theorem below_two (w : World) (o o' : Obj) : Below w.heap.size w ((w.alloc o).alloc o') := below_t (below_alloc w o) (below_alloc _ _)
theorem Ints.two {w : World} {p : Option Addr} {xs : List Int} (h : Ints w p xs) (o o' : Obj) : Ints ((w.alloc o).alloc o').drew p xs := h.keep ((below_two w o o').drew)
theorem lt_two0 (w : World) (o o' : Obj) : w.heap.size < ((w.alloc o).alloc o').drew.heap.size := by simp; omega
theorem lt_a0 (w : World) (o o' : Obj) : w.heap.size < ((w.alloc o).alloc o').heap.size := by simp; omega
theorem lt_a1 (w : World) (o o' : Obj) : w.heap.size + 1 < ((w.alloc o).alloc o').heap.size := by simp
theorem lt_two1 (w : World) (o o' : Obj) : w.heap.size + 1 < ((w.alloc o).alloc o').drew.heap.size := by simp
theorem below_two' {w w1 : World} {o o' : Obj} (hb : Below ((w.alloc o).alloc o').drew.heap.size ((w.alloc o).alloc o').drew w1) : Below w.heap.size w w1 := below_t ((below_two w o o').drew) hb

set_option maxHeartbeats 1000000 in
theorem ArrayCopy_any (p q : Option Addr) (c f : Nat) (s d : List Int) (w : World) (h : Ints w p s) (h' : Ints w q d) (hl : s.length ≤ 1099511627776) (hl' : d.length ≤ 1099511627776) :
    Calls Try.prog 59 #[.agg #[.slice p s.length c, .slice q d.length f]] w fun e w' =>
      (∃ p' c' q' f', e = .returned (.agg #[.slice p' s.length c', .slice q' d.length f']) ∧ New w.heap.size w' p' 3 (s.map (.int .i64)) ∧ New w.heap.size w' q' 2 (d.map (.int .i64))) ∧ Below w.heap.size w w' := by
  go_enter Try.func59, Try.ntmps59
  go_wp2_with fail
  go_region_with (first | (go_at_call 68; refine (copied_int_any _ _ s _ (h.two _ _) hl).mono ?_; rintro e w1 ⟨⟨p', c', rfl, hn1⟩, hb1⟩; have hbw := below_two' hb1; have hc1 := hb1.cell (p := ⟨w.heap.size, 1, none⟩) (lt_two0 _ _ _); have hz1 := hb1.size; simp [go_sem] at hc1 hz1; have hr1 := hb1.cell (p := ⟨w.heap.size + 1, 0, none⟩) (lt_two1 _ _ _); have hr2 := hb1.cell (p := ⟨w.heap.size + 1, 1, none⟩) (lt_two1 _ _ _); have hf1 := hb1.frozen (p := ⟨w.heap.size + 1, 0, none⟩) (lt_two1 _ _ _); have hf2 := hb1.frozen (p := ⟨w.heap.size + 1, 1, none⟩) (lt_two1 _ _ _); simp [go_sem] at hr1 hr2 hf1 hf2; clear hb1) | (go_at_call 69; refine (copied_int64_any _ _ d _ (h'.keep hbw) hl').mono ?_; rintro e w2 ⟨⟨q', f', rfl, hn2⟩, hb2⟩; have hr1 := (hb2.cell (p := ⟨w.heap.size + 1, 0, none⟩) (by show w.heap.size + 1 < _; omega)).trans hr1; have hr2 := (hb2.cell (p := ⟨w.heap.size + 1, 1, none⟩) (by show w.heap.size + 1 < _; omega)).trans hr2; have hf1 := (hb2.frozen (p := ⟨w.heap.size + 1, 0, none⟩) (by show w.heap.size + 1 < _; omega)).trans hf1; have hf2 := (hb2.frozen (p := ⟨w.heap.size + 1, 1, none⟩) (by show w.heap.size + 1 < _; omega)).trans hf2))
  all_goals
    go_wp2_with fail
    refine bodyPost_ret (v := .agg #[.slice p' s.length c', .slice q' d.length f']) (by simp [results, Try.results59, go_sem, hr1, hr2]) rfl ?_
    have hbf : Below w.heap.size w w2 := below_t hbw hb2
    refine ⟨⟨p', c', q', f', rfl, ?_, ?_⟩, ?_⟩
    · exact (((hn1.keep' hb2).other (lt_two1 _ _ _) _).other (lt_two1 _ _ _) _).mono (Nat.le_of_lt (lt_two0 _ _ _))
    · exact ((hn2.other (by show w.heap.size + 1 < _; omega) _).other (by show w.heap.size + 1 < _; omega) _).mono (by omega)
    · exact (hbf.setCell (by simp) _).setCell (by simp) _
end Go.Proofs.Ytolkgjbljdmadaa
