/- BoxShifts, walked at every input. No condition. -/
import Derived.Test.YthkfjdhakbjllaaLaw06f
namespace Go.Proofs.Ythkfjdhakbjllaa
open Go.RowKit Go.Shelf
set_option linter.unusedVariables false

theorem BoxShifts_law (p0 : Option Addr) (c0 : Nat) (s0 : List Int) (q0 : Option Addr) (f0 : Nat) (t0 : List Int) (a s : Int) (w : World) (h0 : Ints w p0 s0) (g0 : Ints w q0 t0) (ia : I64 a) (is : I64 s) :
    Calls Try.prog 14 #[.agg #[.slice p0 s0.length c0, .slice q0 t0.length f0], .int .i64 a, .int .i64 s] w fun e w' => e = .returned (.bool true) ∧ Below w.heap.size w w' := by
  by_cases hno : smallX s0 t0 200 = true → a < 0 ∨ (s0.length : Int) ≤ a ∨ 65536 < s ∨ s < -65536
  · exact Shifts_out p0 q0 c0 f0 s0 t0 a s hno w h0 g0
  · obtain ⟨sa, h⟩ := Classical.not_imp.1 hno
    obtain ⟨k, rfl⟩ : ∃ k : Nat, a = (k : Int) := ⟨a.toNat, by omega⟩
    exact Shifts_in p0 q0 c0 f0 s0 t0 k s (by omega) (by omega) sa w h0 g0
end Go.Proofs.Ythkfjdhakbjllaa
