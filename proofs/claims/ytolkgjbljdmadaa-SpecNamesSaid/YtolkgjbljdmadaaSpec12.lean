/- spec.Read of a name in a nil environment. No condition. -/
import Derived.Test.YtolkgjbljdmadaaSpec11
namespace Go.Proofs.Ytolkgjbljdmadaa
open Go.RowKit Go.Shelf
set_option linter.unusedVariables false
set_option linter.unusedSimpArgs false

set_option maxHeartbeats 1000000 in
theorem Read_name (s : ByteArray) (k f a : Int) (pn pk : Option Addr) (n1 c1 n2 c2 : Nat) (hk : k ≠ 1) (w : World) :
    Calls Try.prog 40 #[.pointer none, .agg #[.int .i64 k, .int .i64 f, .int .i64 a, .string s, .slice pn n1 c1, .slice pk n2 c2]] w fun e w' =>
      e = .returned (.tuple #[.agg #[.slice none 0 0, .bool false], .int .i64 2]) ∧ Below w.heap.size w w' := by
  have hkb : (k == 1) = false := by simp [hk]
  obtain ⟨W, hW⟩ : ∃ W, (w.alloc (.cells #[.int .i64 k, .int .i64 f, .int .i64 a, .string s, .slice pn n1 c1, .slice pk n2 c2] 78)).alloc (.cells #[.slice none 0 0, .bool false] 30) = W := ⟨_, rfl⟩
  have hbA : Below w.heap.size w W := hW ▸ below_t (below_alloc _ _) (below_alloc _ _)
  have h0 : W.cell? ⟨w.heap.size + 1, 0, none⟩ = some (.slice none 0 0) := by rw [← hW]; simp [go_sem]
  have h1 : W.cell? ⟨w.heap.size + 1, 1, none⟩ = some (.bool false) := by rw [← hW]; simp [go_sem]
  have hf : ∀ i, W.frozen? ⟨w.heap.size + 1, i, none⟩ = false := by intro i; rw [← hW]; simp [go_sem]
  have hlt : w.heap.size + 1 < W.heap.size := by rw [← hW]; simp
  have HW := Lib.hid hW
  have HF := Lib.hid hf
  clear hW hf
  go_enter Try.func40, Try.ntmps40
  go_wp2_with fail
  rw [HW.out]
  refine (Get_nil s W).mono ?_
  rintro e1 w1 ⟨rfl, hb1⟩
  have q0 := (hb1.cell (p := ⟨w.heap.size + 1, 0, none⟩) hlt).trans h0
  have q1 := (hb1.cell (p := ⟨w.heap.size + 1, 1, none⟩) hlt).trans h1
  have f0 := (hb1.frozen (p := ⟨w.heap.size + 1, 0, none⟩) hlt).trans (HF.out 0)
  have f1 := (hb1.frozen (p := ⟨w.heap.size + 1, 1, none⟩) hlt).trans (HF.out 1)
  have hb := below_t hbA hb1
  have hs1 := hb1.size
  have hne : w.heap.size + 1 ≠ w1.heap.size := by omega
  have hlt1 : w.heap.size + 1 < w1.heap.size := by omega
  go_wp2_with fail
  refine bodyPost_ret (v := .tuple #[.agg #[.slice none 0 0, .bool false], .int .i64 2]) (by simp [results, Try.results40, go_sem, q0, q1, f0, f1, hne, hlt1]) rfl ⟨rfl, ?_⟩
  have hle : w.heap.size ≤ w.heap.size + 1 := by omega
  have h2 := (hb.setCell (p := ⟨w.heap.size + 1, 0, none⟩) hle (.slice none 0 0)).setCell (p := ⟨w.heap.size + 1, 1, none⟩) hle (.bool false)
  exact h2.alloc h2.size _
end Go.Proofs.Ytolkgjbljdmadaa
