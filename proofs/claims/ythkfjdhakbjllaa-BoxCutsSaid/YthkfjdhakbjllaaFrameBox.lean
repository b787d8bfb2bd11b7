/- What an argument that is a box reads as. No condition. -/
import Derived.Test.YthkfjdhakbjllaaFrame
namespace Go.Proofs.Ythkfjdhakbjllaa
open Go.ChangeShapes Go.WideShapes Go.ChangeAt Go.RowKit Go.Joins

set_option maxRecDepth 100000 in
theorem open_box {H : Type} {enc : TypeId × Value → H} {W : World} {r : Reach} {b0 : Nat} {v : Value} {d : DataW H} {ps : List MemPlace}
    (hv : Value.okWide Try.prog W r b0 65 v) (h : DataW.Trod enc Try.prog W 0 (fun _ => true) true 65 v d ps) :
    ∃ p c s q f t, v = .agg #[.slice p s.length c, .slice q t.length f] ∧ Ints W p s ∧ Ints W q t := by
  obtain ⟨v0, v1, y0, y1, n, rfl, -, -, h0, h1⟩ := open_agg2 Try.underlying65 (by kernel_rfl) (by kernel_rfl) hv h
  obtain ⟨p, c, s, rfl, hs⟩ := ints_trod Try.underlying22 Try.underlying3 (by kernel_rfl) h0
  obtain ⟨q, f, t, rfl, ht⟩ := ints_trod Try.underlying22 Try.underlying3 (by kernel_rfl) h1
  exact ⟨p, c, s, q, f, t, rfl, hs, ht⟩
end Go.Proofs.Ythkfjdhakbjllaa
