/- Of a list of axes: either all numbers up to the greatest stand in it, or there is a first that doesn't. No program in sight. -/
import Derived.Test.YtolkgjbljdmadaaSpec12
namespace Go.Proofs.Ytolkgjbljdmadaa
open Go.RowKit Go.Shelf

theorem perm_cases (vs : List Int) (h0 : ∀ x ∈ vs, 0 ≤ x) :
    ((vs = [] ∨ ((dist vs).length : Int) = most vs + 1) ∧ ∀ k : Nat, (k : Int) ≤ most vs → (k : Int) ∈ vs) ∨
    (0 < vs.length ∧ ((dist vs).length : Int) ≠ most vs + 1 ∧ ∃ g : Nat, (g : Int) ≤ most vs ∧ (g : Int) ∉ vs ∧ ∀ k : Nat, k < g → (k : Int) ∈ vs) := by
  obtain ⟨hm1, hm2, -⟩ := most_fold vs (-1)
  have hm1 : -1 ≤ most vs := hm1
  have hm2 : ∀ x ∈ vs, x ≤ most vs := hm2
  obtain ⟨m, hm⟩ : ∃ m : Nat, (m : Int) = most vs + 1 := ⟨(most vs + 1).toNat, by omega⟩
  have D := dist_full vs m (fun x hx => ⟨h0 x hx, by have := hm2 x hx; omega⟩)
  by_cases hD : ∀ k : Nat, k < m → (k : Int) ∈ vs
  · exact .inl ⟨.inr (by rw [D.2 hD, hm]), fun k hk => hD k (by omega)⟩
  · obtain ⟨k, hk⟩ := Classical.not_forall.1 hD
    obtain ⟨hkm, hkn⟩ := Classical.not_imp.1 hk
    obtain ⟨g, hg1, hg2, hg3⟩ := first_of (fun j : Nat => (j : Int) ∉ vs) k hkn
    refine .inr ⟨?_, fun e => hD (D.1 (by omega)), g, by omega, hg2, fun j hj => Classical.not_not.1 (hg3 j hj)⟩
    rcases Nat.eq_zero_or_pos vs.length with h | h
    · have hv : vs = [] := List.eq_nil_of_length_eq_zero h
      subst hv
      have : most ([] : List Int) = -1 := rfl
      omega
    · exact h
end Go.Proofs.Ytolkgjbljdmadaa
