/- What an argument that is a left operand reads as. No condition. -/
import Derived.Test.YtolkgjbljdmadaaFrame
namespace Go.Proofs.Ytolkgjbljdmadaa
open Go.ChangeShapes Go.WideShapes Go.ChangeAt Go.RowKit Go.Joins

theorem bool_trod {H : Type} {enc : TypeId × Value → H} {W : World} {n : Nat} {T : TypeId} {v : Value} {y : DataW H × List MemPlace} (hT : Try.prog.underlying T = some .bool)
    (h : DataW.trod enc Try.prog W 0 (fun _ => true) true n T [v] = some y) : ∃ b, v = .bool b := by
  obtain ⟨b, hb, -⟩ := DataW.trod_bool hT h
  simp at hb
  exact ⟨b, hb⟩

set_option maxRecDepth 100000 in
theorem open_spec {H : Type} {enc : TypeId × Value → H} {W : World} {r : Reach} {b0 : Nat} {v : Value} {d : DataW H} {ps : List MemPlace}
    (hv : Value.okWide Try.prog W r b0 24 v) (h : DataW.Trod enc Try.prog W 0 (fun _ => true) true 24 v d ps) :
    ∃ p c s b, v = .agg #[.slice p s.length c, .bool b] ∧ Ints W p s := by
  obtain ⟨v0, v1, y0, y1, n, rfl, -, -, h0, h1⟩ := open_agg2 Try.underlying24 (by kernel_rfl) (by kernel_rfl) hv h
  obtain ⟨p, c, s, rfl, hs⟩ := ints_trod Try.underlying22 Try.underlying2 (by kernel_rfl) h0
  obtain ⟨b, rfl⟩ := bool_trod Try.underlying4 h1
  exact ⟨p, c, s, b, rfl, hs⟩
end Go.Proofs.Ytolkgjbljdmadaa
