/- Well-formed nodes, in the reference. No condition beyond what each says. -/
import Derived.Test.YtjehgcmcphgofaaTr3
namespace Go.Proofs.Ytjehgcmcphgofaa
open Go.RowKit Go.Shelf
set_option linter.unusedVariables false
set_option linter.unusedSimpArgs false

/-- no name; an axis -/
def empB (d : TD) : Bool := decide (d.name.toList = [])
def axB (d : TD) : Bool := decide (0 ≤ d.axis) && decide (d.axis ≤ 15)
/-- whether a node is well-formed, by its kind; k0 is the kind of its first kid -/
def nodeB1 (d : TD) : Bool := decide (d.fn = 0) && (decide (d.axis = -1) && (empB d && decide (d.n = 0)))
def nodeB2 (d : TD) : Bool := decide (d.fn = 0) && (decide (d.axis = -1) && (nameB d.name && (decide (d.nums.length = 0) && decide (d.n = 0))))
def nodeB3 (d : TD) : Bool := empB d && (decide (d.nums.length = 0) && (decide (d.n = 1) && ((decide (d.fn = 3) && (decide (d.axis = -1) || axB d)) || ((decide (d.fn = 4) || decide (d.fn = 6)) && decide (d.axis = -1)))))
def nodeB4 (d : TD) (k0 : Int) : Bool := empB d && (decide (d.nums.length = 0) && (decide (d.n = 2) && (decide (1 ≤ d.fn) && (decide (d.fn ≤ 6) && ((decide (d.axis = -1) || (axB d && (decide (d.fn = 3) || decide (d.fn = 6)))) && (decide (d.fn = 6) || (decide (k0 = 1) || decide (k0 = 2))))))))
def nodeB (d : TD) (k0 : Int) : Bool := if d.kind = 1 then nodeB1 d else if d.kind = 2 then nodeB2 d else if d.kind = 3 then nodeB3 d else if d.kind = 4 then nodeB4 d k0 else false

set_option maxRecDepth 100000 in
set_option maxHeartbeats 1000000 in
theorem node_1 (d : TD) (w : World) (hk : d.kind = 1) : Calls Try.prog 48 #[.agg #[.int .i64 d.kind, .int .i64 d.fn, .int .i64 d.axis, .string d.name, .slice d.np d.nums.length d.nc, .slice d.kp d.n d.kc]] w fun e w' => e = .returned (.bool (nodeB1 d)) ∧ Below w.heap.size w w' := by
  have hb := below_alloc w (.cells #[.int .i64 d.kind, .int .i64 d.fn, .int .i64 d.axis, .string d.name, .slice d.np d.nums.length d.nc, .slice d.kp d.n d.kc] 25)
  have k1 : (d.kind == 1) = true := by simp [hk]
  have k2 : (d.kind == 2) = false := by rw [beq_eq_false_iff_ne]; omega
  have k3 : (d.kind == 3) = false := by rw [beq_eq_false_iff_ne]; omega
  have k4 : (d.kind == 4) = false := by rw [beq_eq_false_iff_ne]; omega
  clear hk
  go_enter Try.func48, Try.ntmps48
  go_wp2_with fail
  all_goals
    go_ret
    refine ⟨ret_bool ?_, below_alloc _ _⟩
    simp_all [nodeB1, empB]
    try (rw [Bool.eq_iff_iff]; simp; try omega)

set_option maxRecDepth 100000 in
set_option maxHeartbeats 1000000 in
theorem node_0 (d : TD) (w : World) (h1 : d.kind ≠ 1) (h2 : d.kind ≠ 2) (h3 : d.kind ≠ 3) (h4 : d.kind ≠ 4) : Calls Try.prog 48 #[.agg #[.int .i64 d.kind, .int .i64 d.fn, .int .i64 d.axis, .string d.name, .slice d.np d.nums.length d.nc, .slice d.kp d.n d.kc]] w fun e w' => e = .returned (.bool false) ∧ Below w.heap.size w w' := by
  have hb := below_alloc w (.cells #[.int .i64 d.kind, .int .i64 d.fn, .int .i64 d.axis, .string d.name, .slice d.np d.nums.length d.nc, .slice d.kp d.n d.kc] 25)
  have k1 : (d.kind == 1) = false := by rw [beq_eq_false_iff_ne]; omega
  have k2 : (d.kind == 2) = false := by rw [beq_eq_false_iff_ne]; omega
  have k3 : (d.kind == 3) = false := by rw [beq_eq_false_iff_ne]; omega
  have k4 : (d.kind == 4) = false := by rw [beq_eq_false_iff_ne]; omega
  clear h1 h2 h3 h4
  go_enter Try.func48, Try.ntmps48
  go_wp2_with fail
  all_goals
    go_ret
    exact ⟨rfl, below_alloc _ _⟩
end Go.Proofs.Ytjehgcmcphgofaa
