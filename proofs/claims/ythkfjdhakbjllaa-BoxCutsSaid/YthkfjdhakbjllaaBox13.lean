/- How many indices a range has. No condition beyond what each says. -/
import Derived.Test.YthkfjdhakbjllaaBox12
import Derived.Test.YthkfjdhakbjllaaBoxPlain
namespace Go.Proofs.Ythkfjdhakbjllaa
open Go.RowKit Go.Shelf

theorem dims_len {lo hi : List Int} (h : lo.length ≤ hi.length) : (dimsX lo hi).length = lo.length := mix_len h
theorem dims_nth {lo hi : List Int} (h : lo.length ≤ hi.length) {k : Nat} (hk : k < lo.length) : nth (dimsX lo hi) k = dmI (nth lo k) (nth hi k) := mix_nth hk (by omega)
theorem allX_full {lo hi : List Int} (h : lo.length ≤ hi.length) (hf : FullX lo hi) : ∀ k, k ≤ lo.length → ((allX ((dimsX lo hi).take k)).length : Int) = vol lo hi k
  | 0, _ => by simp [allX, vol]
  | k + 1, hk => by
    rw [take_nth (by rw [dims_len h]; omega), allX_snoc, stepA_len, Int.natCast_mul, allX_full h hf k (by omega), dims_nth h (by omega)]
    have := hf k (by omega)
    have e : dmI (nth lo k) (nth hi k) = nth hi k - nth lo k := by unfold dmI; rw [if_neg (by omega)]
    rw [e, Int.toNat_of_nonneg (by omega)]
    rfl
theorem allX_zero {lo hi : List Int} (h : lo.length ≤ hi.length) {j : Nat} (hj : j < lo.length) (hx : nth hi j ≤ nth lo j) : ∀ k, j < k → k ≤ lo.length → (allX ((dimsX lo hi).take k)).length = 0
  | 0, h0, _ => by omega
  | k + 1, h1, hk => by
    rw [take_nth (by rw [dims_len h]; omega), allX_snoc, stepA_len]
    by_cases hjk : j = k
    · subst hjk
      rw [dims_nth h hj]
      have e : dmI (nth lo j) (nth hi j) = 0 := by unfold dmI; split <;> omega
      rw [e]
      simp
    · rw [allX_zero h hj hx k (by omega) (by omega)]
      simp
theorem allX_count {lo hi : List Int} (h : lo.length ≤ hi.length) : ((allX (dimsX lo hi)).length : Int) = countX lo hi := by
  unfold countX
  by_cases hf : FullX lo hi
  · rw [if_pos hf]
    have := allX_full h hf lo.length (Nat.le_refl _)
    rwa [List.take_of_length_le (by rw [dims_len h]; omega)] at this
  · rw [if_neg hf]
    unfold FullX at hf
    obtain ⟨j, hj⟩ := Classical.not_forall.1 hf
    obtain ⟨hj1, hj2⟩ := Classical.not_imp.1 hj
    have := allX_zero h hj1 (by omega) lo.length hj1 (Nat.le_refl _)
    rw [List.take_of_length_le (by rw [dims_len h]; omega)] at this
    rw [this]
    rfl
end Go.Proofs.Ythkfjdhakbjllaa
