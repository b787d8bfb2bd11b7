/- The copy that the reference of layer 5 makes (two appends in one statement whose order is open), its At and Small, and the reference's Small of layer 2. -/
import Derived.Test.YtolkgjbljdmadaaRef05
import Derived.Test.YtolkgjbljdmadaaApp
import Derived.Deep.RegionHeld3
import Derived.Deep.RegionLaw
namespace Go.Proofs.Ytolkgjbljdmadaa
open Go.RowKit Go.Shelf
set_option linter.unusedVariables false

set_option maxHeartbeats 20000000 in
theorem RefCopy_any (p q : Option Addr) (c f : Nat) (s d : List Int) (w : World) (h : Ints w p s) (h' : Ints w q d) (hl : s.length ≤ 1099511627776) (hl' : d.length ≤ 1099511627776) :
    Calls Try.prog 62 #[.agg #[.slice p s.length c, .slice q d.length f]] w fun e w' =>
      (∃ p' c' q' f', e = .returned (.agg #[.slice p' s.length c', .slice q' d.length f']) ∧ New w.heap.size w' p' 3 (s.map (.int .i64)) ∧ New w.heap.size w' q' 2 (d.map (.int .i64))) ∧ Below w.heap.size w w' := by
  go_enter Try.func62, Try.ntmps62
  go_wp2_with fail
  obtain ⟨W0, hW0⟩ : ∃ W0, (w.alloc (.cells #[.slice p s.length c, .slice q d.length f] 47)).alloc (.cells #[.slice none 0 0, .slice none 0 0] 47) = W0 := ⟨_, rfl⟩
  have hc0 : W0.cell? ⟨w.heap.size, 0, none⟩ = some (.slice p s.length c) := by rw [← hW0]; simp [go_sem]
  have hc1 : W0.cell? ⟨w.heap.size, 1, none⟩ = some (.slice q d.length f) := by rw [← hW0]; simp [go_sem]
  have hc2 : W0.cell? ⟨w.heap.size + 1, 0, none⟩ = some (.slice none 0 0) := by rw [← hW0]; simp [go_sem]
  have hc3 : W0.cell? ⟨w.heap.size + 1, 1, none⟩ = some (.slice none 0 0) := by rw [← hW0]; simp [go_sem]
  have hf0 : W0.frozen? ⟨w.heap.size + 1, 0, none⟩ = false := by rw [← hW0]; simp [go_sem]
  have hf1 : W0.frozen? ⟨w.heap.size + 1, 1, none⟩ = false := by rw [← hW0]; simp [go_sem]
  have hl0 : w.heap.size < W0.heap.size := by rw [← hW0]; exact lt_a0 _ _ _
  have hl1 : w.heap.size + 1 < W0.heap.size := by rw [← hW0]; exact lt_a1 _ _ _
  have hbw : Below w.heap.size w W0 := by rw [← hW0]; exact below_two _ _ _
  have hs0 := (h.keep hbw).cells
  have hd0 := (h'.keep hbw).cells
  rw [hW0]
  clear hW0
  go_region_held3 (fun w' => w'.cell? ⟨w.heap.size, 0, none⟩ = some (.slice p s.length c) ∧ w'.cell? ⟨w.heap.size, 1, none⟩ = some (.slice q d.length f)) (go_keep) (first
    | (refine step_fresh_int (o := ⟨some 6, _, _, _, _, _⟩) rfl _ _ rfl _ p c s rfl rfl ?_ hl ?_; (exact hs0.keep (by go_grown)); intro p1 c1 w1 hn1 hb1; have hB1 := below_t (w := W0) (by go_grown) hb1; have hN1 : New W0.heap.size w1 p1 3 (s.map (.int .i64)) := hn1.mono (by first | exact Nat.le_refl _ | (simp; done) | (simp; omega)); have hx0 := (hB1.cell (p := ⟨w.heap.size, 0, none⟩) hl0).trans hc0; have hx1 := (hB1.cell (p := ⟨w.heap.size, 1, none⟩) hl0).trans hc1; have hr0 := (hB1.cell (p := ⟨w.heap.size + 1, 0, none⟩) hl1).trans hc2; have hr1 := (hB1.cell (p := ⟨w.heap.size + 1, 1, none⟩) hl1).trans hc3; have hq0 := (hB1.frozen (p := ⟨w.heap.size + 1, 0, none⟩) hl1).trans hf0; have hq1 := (hB1.frozen (p := ⟨w.heap.size + 1, 1, none⟩) hl1).trans hf1; have hza := Nat.lt_of_lt_of_le hl0 hB1.size; have hzb := Nat.lt_of_lt_of_le hl1 hB1.size; clear hb1 hn1)
    | (refine step_fresh_i64 (o := ⟨some 10, _, _, _, _, _⟩) rfl _ _ rfl _ q f d rfl rfl ?_ hl' ?_; (exact hd0.keep (below_t hB1 (by first | exact Below.refl _ _ | (go_grown; done)))); intro q1 f1 w2 hn2 hb2; have hB12 := below_t (w := w1) (by first | exact Below.refl _ _ | (go_grown; done)) hb2; have hB2 := below_t hB1 hB12; have hk1 := hN1.keep' hB12; have hN2 : New W0.heap.size w2 q1 2 (d.map (.int .i64)) := hn2.mono (Nat.le_trans hB1.size (by first | exact Nat.le_refl _ | (simp; done) | (simp; omega))); have hx0 := (hB2.cell (p := ⟨w.heap.size, 0, none⟩) hl0).trans hc0; have hx1 := (hB2.cell (p := ⟨w.heap.size, 1, none⟩) hl0).trans hc1; have hr0 := (hB2.cell (p := ⟨w.heap.size + 1, 0, none⟩) hl1).trans hc2; have hr1 := (hB2.cell (p := ⟨w.heap.size + 1, 1, none⟩) hl1).trans hc3; have hq0 := (hB2.frozen (p := ⟨w.heap.size + 1, 0, none⟩) hl1).trans hf0; have hq1 := (hB2.frozen (p := ⟨w.heap.size + 1, 1, none⟩) hl1).trans hf1; have hza := Nat.lt_of_lt_of_le hl0 hB2.size; have hzb := Nat.lt_of_lt_of_le hl1 hB2.size; clear hb2 hn2))
  all_goals
    go_wp2_with fail
    refine bodyPost_ret (v := .agg #[.slice p1 s.length c1, .slice q1 d.length f1]) (by simp [results, Try.results62, go_sem, hr0, hr1]) rfl ?_
    refine ⟨⟨p1, c1, q1, f1, rfl, ?_, ?_⟩, ?_⟩
    · exact ((hk1.other hl1 _).other hl1 _).mono (Nat.le_of_lt hl0)
    · exact ((hN2.other hl1 _).other hl1 _).mono (Nat.le_of_lt hl0)
    · exact ((below_t hbw hB2).setCell (by simp) _).setCell (by simp) _
end Go.Proofs.Ytolkgjbljdmadaa
