/- What size.Sum, Dimension, Magnitude, Mod and the reference's Product, Sum, Dimension, Magnitude, Mod return. -/
import Derived.Test.YtolkgjbljdmadaaSize
namespace Go.Proofs.Ytolkgjbljdmadaa
open Go.RowKit Go.Shelf


theorem Dimension_any (v : Int) (w : World) :
    Calls Try.prog 46 #[.int .i64 v] w fun e w' => e = .returned (.tuple #[.int .i64 (dimS v).1, .int .i64 (dimS v).2]) ∧ w = w' := by
  by_cases h1 : v < 0
  · have e : dimS v = (0, 6) := by simp [dimS, h1]
    rw [e]
    clear e
    go_enter Try.func46, Try.ntmps46
    go_wp2
    go_ret2
    exact ⟨rfl, rfl⟩
  by_cases h2 : 65536 < v
  · have e : dimS v = (0, 7) := by simp [dimS, h1, h2]
    rw [e]
    clear e
    go_enter Try.func46, Try.ntmps46
    go_wp2
    go_ret2
    exact ⟨rfl, rfl⟩
  · have e : dimS v = (v, 0) := by simp [dimS, h1, h2]
    rw [e]
    clear e
    go_enter Try.func46, Try.ntmps46
    go_wp2
    go_ret2
    exact ⟨rfl, rfl⟩





end Go.Proofs.Ytolkgjbljdmadaa
