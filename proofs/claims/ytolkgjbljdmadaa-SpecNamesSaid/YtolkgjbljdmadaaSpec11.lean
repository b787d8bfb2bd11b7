/- env's bound and Get at a nil environment. No condition. -/
import Derived.Test.YtolkgjbljdmadaaSpec10
namespace Go.Proofs.Ytolkgjbljdmadaa
open Go.RowKit Go.Shelf
set_option linter.unusedVariables false
set_option linter.unusedSimpArgs false

theorem bound_nil (s : ByteArray) (w : World) :
    Calls Try.prog 58 #[.pointer none, .string s] w fun e w' =>
      e = .returned (.tuple #[.agg #[.slice none 0 0, .slice none 0 0], .bool false]) ∧ Below w.heap.size w w' := by
  go_enter Try.func58, Try.ntmps58
  go_wp2_with fail
  refine bodyPost_ret (v := .tuple #[.agg #[.slice none 0 0, .slice none 0 0], .bool false]) (by simp [results, Try.results58, go_sem]) rfl ⟨rfl, ?_⟩
  go_grown
theorem Get_nil (s : ByteArray) (w : World) :
    Calls Try.prog 32 #[.pointer none, .string s] w fun e w' =>
      e = .returned (.tuple #[.agg #[.slice none 0 0, .slice none 0 0], .bool false]) ∧ Below w.heap.size w w' := by
  have hbA : Below w.heap.size w (w.alloc (.cells #[.slice none 0 0, .slice none 0 0] 47)) := below_alloc _ _
  have h0 : (w.alloc (.cells #[.slice none 0 0, .slice none 0 0] 47)).cell? ⟨w.heap.size, 0, none⟩ = some (.slice none 0 0) := by simp [go_sem]
  have h1 : (w.alloc (.cells #[.slice none 0 0, .slice none 0 0] 47)).cell? ⟨w.heap.size, 1, none⟩ = some (.slice none 0 0) := by simp [go_sem]
  have hf : ∀ i, (w.alloc (.cells #[.slice none 0 0, .slice none 0 0] 47)).frozen? ⟨w.heap.size, i, none⟩ = false := by intro i; simp [go_sem]
  obtain ⟨W, hW⟩ : ∃ W, w.alloc (.cells #[.slice none 0 0, .slice none 0 0] 47) = W := ⟨_, rfl⟩
  have hlt : w.heap.size < W.heap.size := by rw [← hW]; simp
  rw [hW] at hbA h0 h1 hf
  have HW := Lib.hid hW
  have HF := Lib.hid hf
  clear hW hf
  go_enter Try.func32, Try.ntmps32
  go_wp2_with fail
  rw [HW.out]
  refine (bound_nil s W).mono ?_
  rintro e1 w1 ⟨rfl, hb1⟩
  have q0 := (hb1.cell (p := ⟨w.heap.size, 0, none⟩) hlt).trans h0
  have q1 := (hb1.cell (p := ⟨w.heap.size, 1, none⟩) hlt).trans h1
  have f0 := (hb1.frozen (p := ⟨w.heap.size, 0, none⟩) hlt).trans (HF.out 0)
  have f1 := (hb1.frozen (p := ⟨w.heap.size, 1, none⟩) hlt).trans (HF.out 1)
  have hb := below_t hbA hb1
  have hs1 := hb1.size
  have hne : w.heap.size ≠ w1.heap.size := by omega
  have hlt1 : w.heap.size < w1.heap.size := by omega
  go_wp2_with fail
  refine bodyPost_ret (v := .tuple #[.agg #[.slice none 0 0, .slice none 0 0], .bool false]) (by simp [results, Try.results32, go_sem, q0, q1, f0, f1, hne, hlt1]) rfl ⟨rfl, ?_⟩
  have hle : w.heap.size ≤ w.heap.size := Nat.le_refl _
  have h2 := (hb.setCell (p := ⟨w.heap.size, 0, none⟩) hle (.slice none 0 0)).setCell (p := ⟨w.heap.size, 1, none⟩) hle (.slice none 0 0)
  exact h2.alloc h2.size _
end Go.Proofs.Ytolkgjbljdmadaa
