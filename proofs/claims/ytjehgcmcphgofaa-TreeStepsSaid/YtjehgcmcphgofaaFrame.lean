/- What the arguments of a law read as: slices of numbers, arrays. No condition. -/
import Derived.Test.YtjehgcmcphgofaaBase
import Derived.ProofKit
import Derived.OpenShut
import Derived.ChangeOld
import Derived.Lib.SmallJoins
namespace Go.Proofs.Ytjehgcmcphgofaa
open Go.ChangeShapes Go.WideShapes Go.ChangeAt Go.RowKit Go.Joins

set_option maxRecDepth 100000 in
theorem ints_trod {H : Type} {enc : TypeId × Value → H} {W : World} {n : Nat} {T E : TypeId} {v : Value} {y : DataW H × List MemPlace} (hT : Try.prog.underlying T = some (.slice E)) (hE : Try.prog.underlying E = some (.int .i64)) (hc : Try.prog.cellsOf E = 1)
    (h : DataW.trod enc Try.prog W 0 (fun _ => true) true n T [v] = some y) : ∃ p c xs, v = .slice p xs.length c ∧ Ints W p xs := by
  rcases open_ints hT hE hc h with ⟨hcs, _⟩ | ⟨x, l, c, zs, hcs, _, hl, hm, hz, _, hcell, hwz⟩
  · simp at hcs
    subst hcs
    exact ⟨none, 0, [], rfl, .inl rfl, by simp, by simp⟩
  · simp at hcs
    subst hcs
    obtain ⟨xs, rfl, hx⟩ := IsRow.ints (.inr ⟨x, rfl, hl, hm, by simpa using hz, hcell, hwz⟩ : IsRow .i64 W (some x) l c zs)
    exact ⟨some x, c, xs, rfl, hx⟩

set_option maxRecDepth 100000 in
theorem open_row {H : Type} {enc : TypeId × Value → H} {W : World} {r : Reach} {b0 : Nat} {T E : TypeId} {v : Value} {d : DataW H} {ps : List MemPlace} (hT : Try.prog.underlying T = some (.slice E)) (hE : Try.prog.underlying E = some (.int .i64)) (hc : Try.prog.cellsOf E = 1)
    (hv : Value.okWide Try.prog W r b0 T v) (h : DataW.Trod enc Try.prog W 0 (fun _ => true) true T v d ps) : ∃ p c xs, v = .slice p xs.length c ∧ Ints W p xs := by
  obtain ⟨a, l, c, rfl⟩ := okWide_slice hT hv
  obtain ⟨n, hf⟩ := h
  exact ints_trod hT hE hc hf

set_option maxRecDepth 100000 in
theorem row_cap {H : Type} {enc : TypeId × Value → H} {W : World} {T E : TypeId} {a : Option Addr} {l c : Nat} {d : DataW H} {ps : List MemPlace} (hT : Try.prog.underlying T = some (.slice E)) (hE : Try.prog.underlying E = some (.int .i64)) (hc : Try.prog.cellsOf E = 1)
    (h : DataW.Trod enc Try.prog W 0 (fun _ => true) true T (.slice a l c) d ps) : l ≤ c := by
  obtain ⟨n, hf⟩ := h
  rcases open_ints hT hE hc hf with ⟨hcs, _⟩ | ⟨x, l', c', zs, hcs, _, hl, _⟩
  · simp [Value.cells] at hcs
    omega
  · simp [Value.cells] at hcs
    omega

end Go.Proofs.Ytjehgcmcphgofaa
