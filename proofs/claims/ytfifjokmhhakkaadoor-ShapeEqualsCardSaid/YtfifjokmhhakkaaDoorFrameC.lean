/- A parameter of type []int, opened with its bounds. No condition. -/
import Derived.Test.YtfifjokmhhakkaaDoorEdit1
import Derived.ProofKit
import Derived.OpenShut
namespace Go.Proofs.YtfifjokmhhakkaaDoor
open Go.ChangeShapes Go.WideShapes Go.ChangeAt Go.RowKit
set_option linter.unusedVariables false

set_option maxRecDepth 100000 in
theorem open_list {H : Type} {enc : TypeId × Value → H} {W : World} {r : Reach} {b0 : Nat} {T E : TypeId} {v : Value} {d : DataW H} {ps : List MemPlace} (hT : Tryd.prog.underlying T = some (.slice E)) (hE : Tryd.prog.underlying E = some (.int .i64)) (hc : Tryd.prog.cellsOf E = 1)
    (hv : Value.okWide Tryd.prog W r b0 T v) (h : DataW.Trod enc Tryd.prog W 0 (fun _ => true) true T v d ps) : ∃ p c xs, v = .slice p xs.length c ∧ Ints W p xs ∧ Bds p xs.length c := by
  obtain ⟨a, l, c, rfl⟩ := okWide_slice hT hv
  obtain ⟨n, hf⟩ := h
  rcases open_ints hT hE hc hf with ⟨hcs, _⟩ | ⟨x, l, c, zs, hcs, _, hl, hm, hz, _, hcell, hwz⟩
  · simp [Value.cells] at hcs
    obtain ⟨rfl, rfl, rfl⟩ := hcs
    exact ⟨none, 0, [], rfl, ⟨.inl rfl, by simp, by simp⟩, ⟨Nat.le_refl _, by omega, fun _ => rfl⟩⟩
  · simp [Value.cells] at hcs
    obtain ⟨rfl, rfl, rfl⟩ := hcs
    obtain ⟨xs, hxl, hx⟩ := IsRow.ints (.inr ⟨x, rfl, hl, hm, by simpa using hz, hcell, hwz⟩ : IsRow .i64 W (some x) _ _ zs)
    subst hxl
    exact ⟨some x, _, xs, rfl, hx, ⟨hl, by unfold maxLen at hm; omega, fun h => by cases h⟩⟩
end Go.Proofs.YtfifjokmhhakkaaDoor
