/- Well-formed nodes, in the reference: two operands. No condition beyond what each says. -/
import Derived.Test.YtjehgcmcphgofaaTr4
namespace Go.Proofs.Ytjehgcmcphgofaa
open Go.RowKit Go.Shelf
set_option linter.unusedVariables false
set_option linter.unusedSimpArgs false

set_option maxRecDepth 100000 in
set_option maxHeartbeats 2000000 in
theorem node_4l (d : TD) (k0 : Int) (w : World) (hk : d.kind = 4) (hn : d.nums ≠ []) : Calls Try.prog 48 #[.agg #[.int .i64 d.kind, .int .i64 d.fn, .int .i64 d.axis, .string d.name, .slice d.np d.nums.length d.nc, .slice d.kp d.n d.kc]] w fun e w' => e = .returned (.bool (nodeB4 d k0)) ∧ Below w.heap.size w w' := by
  have k1 : (d.kind == 1) = false := by rw [beq_eq_false_iff_ne]; omega
  have k2 : (d.kind == 2) = false := by rw [beq_eq_false_iff_ne]; omega
  have k3 : (d.kind == 3) = false := by rw [beq_eq_false_iff_ne]; omega
  have k4 : (d.kind == 4) = true := by simp [hk]
  have hp : 0 < d.nums.length := List.length_pos_iff.2 hn
  have hp1 : (0 : Int) < (d.nums.length : Int) := by omega
  have hp2 : ¬ d.nums = [] := hn
  have HR : Hid (nodeB4 d k0 = false) := by rw [Hid, nodeB4, decide_eq_false (p := d.nums.length = 0) (by omega)]; simp
  clear hk hn
  go_enter Try.func48, Try.ntmps48
  go_wp2_with fail
  all_goals
    go_ret
    exact ⟨ret_bool HR.out.symm, below_alloc _ _⟩
set_option maxRecDepth 100000 in
set_option maxHeartbeats 2000000 in
theorem node_4n (d : TD) (k0 : Int) (w : World) (hk : d.kind = 4) (hz : d.nums = []) (hn : d.n ≠ 2) : Calls Try.prog 48 #[.agg #[.int .i64 d.kind, .int .i64 d.fn, .int .i64 d.axis, .string d.name, .slice d.np d.nums.length d.nc, .slice d.kp d.n d.kc]] w fun e w' => e = .returned (.bool (nodeB4 d k0)) ∧ Below w.heap.size w w' := by
  have k1 : (d.kind == 1) = false := by rw [beq_eq_false_iff_ne]; omega
  have k2 : (d.kind == 2) = false := by rw [beq_eq_false_iff_ne]; omega
  have k3 : (d.kind == 3) = false := by rw [beq_eq_false_iff_ne]; omega
  have k4 : (d.kind == 4) = true := by simp [hk]
  have hn2 : ((d.n : Int) != 2) = true := by simp; omega
  have HR : Hid (nodeB4 d k0 = false) := by rw [Hid, nodeB4, decide_eq_false (p := d.n = 2) hn]; simp
  clear hk hn
  go_enter Try.func48, Try.ntmps48
  go_wp2_with fail
  all_goals
    go_ret
    exact ⟨ret_bool HR.out.symm, below_alloc _ _⟩
set_option maxRecDepth 100000 in
set_option maxHeartbeats 4000000 in
theorem node_4y (d : TD) (k0 : Int) (w : World) (hk : d.kind = 4) (hz : d.nums = []) (hn : d.n = 2) (g o : Nat) (hkp : d.kp = some ⟨g, o, none⟩) (hg : g < w.heap.size) (hc : w.cell? ⟨g, o, none⟩ = some (.int .i64 k0)) : Calls Try.prog 48 #[.agg #[.int .i64 d.kind, .int .i64 d.fn, .int .i64 d.axis, .string d.name, .slice d.np d.nums.length d.nc, .slice d.kp d.n d.kc]] w fun e w' => e = .returned (.bool (nodeB4 d k0)) ∧ Below w.heap.size w w' := by
  have k1 : (d.kind == 1) = false := by rw [beq_eq_false_iff_ne]; omega
  have k2 : (d.kind == 2) = false := by rw [beq_eq_false_iff_ne]; omega
  have k3 : (d.kind == 3) = false := by rw [beq_eq_false_iff_ne]; omega
  have k4 : (d.kind == 4) = true := by simp [hk]
  have hn2 : ((d.n : Int) != 2) = false := by simp; omega
  have hn0 : (0 : Int) < (d.n : Int) := by omega
  have HN := Lib.hid hn
  have hw0 : IntKind.i64.wrap 0 = 0 := by decide
  have hgn : g ≠ w.heap.size := by omega
  clear hk hn
  go_enter Try.func48, Try.ntmps48
  go_wp2_with fail
  all_goals
    go_ret
    refine ⟨ret_bool ?_, below_alloc _ _⟩
    have hn := HN.out
    simp_all [nodeB4, empB, axB]
    try (rw [Bool.eq_iff_iff]; simp only [Bool.or_eq_true, Bool.and_eq_true, decide_eq_true_eq, beq_iff_eq]; omega)
    try omega
end Go.Proofs.Ytjehgcmcphgofaa
