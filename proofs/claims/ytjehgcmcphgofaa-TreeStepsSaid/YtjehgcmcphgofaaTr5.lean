/- Well-formed nodes, in the reference: one operand. No condition beyond what each says. -/
import Derived.Test.YtjehgcmcphgofaaTr4
namespace Go.Proofs.Ytjehgcmcphgofaa
open Go.RowKit Go.Shelf
set_option linter.unusedVariables false
set_option linter.unusedSimpArgs false

set_option maxRecDepth 100000 in
set_option maxHeartbeats 1000000 in
theorem node_3 (d : TD) (w : World) (hk : d.kind = 3) : Calls Try.prog 48 #[.agg #[.int .i64 d.kind, .int .i64 d.fn, .int .i64 d.axis, .string d.name, .slice d.np d.nums.length d.nc, .slice d.kp d.n d.kc]] w fun e w' => e = .returned (.bool (nodeB3 d)) ∧ Below w.heap.size w w' := by
  have hb := below_alloc w (.cells #[.int .i64 d.kind, .int .i64 d.fn, .int .i64 d.axis, .string d.name, .slice d.np d.nums.length d.nc, .slice d.kp d.n d.kc] 25)
  have k1 : (d.kind == 1) = false := by rw [beq_eq_false_iff_ne]; omega
  have k2 : (d.kind == 2) = false := by rw [beq_eq_false_iff_ne]; omega
  have k3 : (d.kind == 3) = true := by simp [hk]
  have k4 : (d.kind == 4) = false := by rw [beq_eq_false_iff_ne]; omega
  clear hk
  go_enter Try.func48, Try.ntmps48
  go_wp2_with fail
  all_goals
    go_ret
    refine ⟨ret_bool ?_, below_alloc _ _⟩
    simp_all [nodeB3, empB, axB]
    try (rw [Bool.eq_iff_iff]; simp only [Bool.or_eq_true, Bool.and_eq_true, decide_eq_true_eq, beq_iff_eq]; omega)
    try omega

end Go.Proofs.Ytjehgcmcphgofaa
