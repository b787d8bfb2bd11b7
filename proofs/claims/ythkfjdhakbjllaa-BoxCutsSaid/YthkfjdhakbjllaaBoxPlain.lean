/- All indices of a list of lengths, as plain lists. No condition. -/
import Derived.Test.YthkfjdhakbjllaaBase
namespace Go.Proofs.Ythkfjdhakbjllaa
open Go.RowKit Go.Shelf

/-- each list with each number below d behind it -/
def stepA (out : List (List Int)) (d : Int) : List (List Int) := out.flatMap fun r => (List.range d.toNat).map fun (n : Nat) => r ++ [(n : Int)]
def allX (s : List Int) : List (List Int) := s.foldl stepA [[]]
theorem stepA_len (out : List (List Int)) (d : Int) : (stepA out d).length = out.length * d.toNat := by
  unfold stepA
  induction out with
  | nil => simp
  | cons r out ih =>
    rw [List.flatMap_cons, List.length_append, ih]
    simp [Nat.succ_mul, Nat.add_comm]
theorem allX_snoc (s : List Int) (d : Int) : allX (s ++ [d]) = stepA (allX s) d := by simp [allX]
theorem stepA_mem {out : List (List Int)} {d : Int} {r : List Int} : r ∈ stepA out d ↔ ∃ a ∈ out, ∃ n : Nat, (n : Int) < d ∧ r = a ++ [(n : Int)] := by
  unfold stepA
  rw [List.mem_flatMap]
  constructor
  · rintro ⟨a, ha, h⟩
    obtain ⟨n, hn, rfl⟩ := List.mem_map.1 h
    exact ⟨a, ha, n, by have := List.mem_range.1 hn; omega, rfl⟩
  · rintro ⟨a, ha, n, hn, rfl⟩
    exact ⟨a, ha, List.mem_map.2 ⟨n, List.mem_range.2 (by omega), rfl⟩⟩
theorem nth_app_lt {a b : List Int} {j : Nat} (h : j < a.length) : nth (a ++ b) j = nth a j := by
  unfold nth
  rw [List.getD_eq_getElem?_getD, List.getD_eq_getElem?_getD, List.getElem?_append_left h]
theorem nth_app_last {a : List Int} {x : Int} : nth (a ++ [x]) a.length = x := by
  unfold nth
  rw [List.getD_eq_getElem?_getD, List.getElem?_append_right (Nat.le_refl _)]
  simp
theorem allX_take_mem {s : List Int} : ∀ k, k ≤ s.length → ∀ r, r ∈ allX (s.take k) ↔ (r.length = k ∧ ∀ j, j < k → 0 ≤ nth r j ∧ nth r j < nth s j)
  | 0, _, r => by
    simp [allX]
  | k + 1, hk, r => by
    rw [take_nth (by omega), allX_snoc, stepA_mem]
    constructor
    · rintro ⟨a, ha, n, hn, rfl⟩
      obtain ⟨h1, h2⟩ := (allX_take_mem k (by omega) a).1 ha
      refine ⟨by simp [h1], fun j hj => ?_⟩
      by_cases hjk : j = k
      · subst hjk
        rw [← h1, nth_app_last, h1]
        omega
      · rw [nth_app_lt (by omega)]
        exact h2 j (by omega)
    · rintro ⟨h1, h2⟩
      have h3 := h2 k (by omega)
      have e : r.take (k + 1) = r.take k ++ [nth r k] := take_nth (by omega)
      rw [List.take_of_length_le (by omega)] at e
      refine ⟨r.take k, (allX_take_mem k (by omega) _).2 ⟨by rw [List.length_take]; omega, fun j hj => ?_⟩, (nth r k).toNat, by omega, ?_⟩
      · have h4 := h2 j (by omega)
        have e2 : nth r j = nth (r.take k) j := by
          conv => lhs; rw [e]
          exact nth_app_lt (by rw [List.length_take]; omega)
        rw [← e2]
        exact h4
      · rw [Int.toNat_of_nonneg h3.1]
        exact e
theorem allX_mem {s r : List Int} : r ∈ allX s ↔ (r.length = s.length ∧ ∀ j, j < s.length → 0 ≤ nth r j ∧ nth r j < nth s j) := by
  have := allX_take_mem (s := s) s.length (Nat.le_refl _) r
  rwa [List.take_length] at this
end Go.Proofs.Ythkfjdhakbjllaa
