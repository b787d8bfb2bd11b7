/- BoxCuts: what its numbers say. No program in sight. -/
import Derived.Test.YthkfjdhakbjllaaLaw06d
import Derived.Test.YthkfjdhakbjllaaBox30
namespace Go.Proofs.Ythkfjdhakbjllaa
open Go.RowKit Go.Shelf
set_option linter.unusedVariables false
set_option linter.unusedSimpArgs false

theorem nth_pred {xs : List Int} {j : Nat} (hj : j < xs.length) : nth (xs.map fun x => x - 1) j = nth xs j - 1 := by simp [nth, hj]
/-- a part with cells lies within the box -/
theorem full_in {lo hi alo ahi : List Int} (l1 : lo.length = alo.length) (l2 : hi.length = alo.length) (hf : FullX lo hi) (h : ∀ r, InX lo hi r → InX alo ahi r) : ∀ j, j < alo.length → nth alo j ≤ nth lo j ∧ nth hi j ≤ nth ahi j := fun j hj => by
  have h1 := h lo ⟨rfl, fun i hi' => ⟨Int.le_refl _, hf i hi'⟩⟩
  have h2 := h (hi.map fun x => x - 1) ⟨by rw [List.length_map]; omega, fun i hi' => by
    rw [List.length_map] at hi'
    rw [nth_pred hi']
    have := hf i (by omega)
    omega⟩
  have a := (h1.2 j (by omega)).1
  have b := (h2.2 j (by rw [List.length_map]; omega)).2
  rw [nth_pred (by omega)] at b
  omega
theorem part_full {alo ahi blo bhi : List Int} {x : Bx} (hx : x ∈ minusX alo ahi blo bhi) : FullX x.1 x.2 ∧ FullX alo ahi := by
  unfold minusX at hx
  split at hx
  · cases hx
  · next hf =>
    have hf : FullX alo ahi := Decidable.not_not.1 hf
    refine ⟨?_, hf⟩
    split at hx
    · unfold cutsX at hx
      obtain ⟨k, -, hx⟩ := List.mem_flatMap.1 hx
      have := (List.mem_filter.1 hx).2
      unfold fullB at this
      exact of_decide_eq_true this
    · rw [List.mem_singleton] at hx
      subst hx
      exact hf
theorem fewN_mono {lo hi alo ahi : List Int} : ∀ k, (∀ j, j < k → nth hi j - nth lo j ≤ nth ahi j - nth alo j) → (∀ j, j < k → NearX lo hi j) → (∀ j, j < k → NearX alo ahi j) → fewN lo hi k ≤ fewN alo ahi k
  | 0, _, _, _ => Int.le_refl _
  | k + 1, h, n1, n2 => by
    have ih := fewN_mono k (fun j hj => h j (by omega)) (fun j hj => n1 j (by omega)) fun j hj => n2 j (by omega)
    have h1 := h k (by omega)
    have b1 := (fewN_bd (lo := lo) (hi := hi) k fun j hj => n1 j (by omega)).1
    have b2 := (fewN_bd (lo := alo) (hi := ahi) k fun j hj => n2 j (by omega)).1
    simp only [fewN]
    exact Int.mul_le_mul (by omega) (by omega) (by omega) (by omega)
/-- the parts of a small box are small -/
theorem part_few {alo ahi blo bhi : List Int} {m : Int} (hs : FewX alo ahi m) (hb : blo.length = bhi.length) {x : Bx} (hx : x ∈ minusX alo ahi blo bhi) : FewX x.1 x.2 m := by
  obtain ⟨ha, h5, hn, hfew⟩ := hs
  obtain ⟨l1, l2, hin⟩ := minus_part ha hb hx
  obtain ⟨f1, f2⟩ := part_full hx
  have hfi := full_in l1 (by omega) f1 hin
  have hn' : ∀ j, j < x.1.length → NearX x.1 x.2 j := fun j hj => by
    have h1 := hfi j (by omega)
    have h2 := hn j (by omega)
    have h3 := f1 j (by omega)
    unfold NearX at h2 ⊢
    omega
  refine ⟨by omega, by omega, hn', .inl ?_⟩
  have hM : fewN alo ahi alo.length ≤ m := by
    rcases hfew with h | h
    · exact h
    · exact (h.1 f2).elim
  rw [l1] at hn' ⊢
  exact Int.le_trans (fewN_mono alo.length (fun j hj => by have := hfi j hj; omega) hn' hn) hM

/-- the first k boxes' cells -/
def lensS (L : List Bx) (k : Nat) : Nat := ((L.take k).map fun x => (betX x.1 x.2).length).sum
theorem lensS_next {L : List Bx} {k : Nat} {x : Bx} (h : L[k]? = some x) : lensS L (k + 1) = lensS L k + (betX x.1 x.2).length := by
  unfold lensS
  rw [List.take_add_one, h, List.map_append, List.sum_append]
  simp
theorem lensS_le (L : List Bx) {k : Nat} (hk : k ≤ L.length) : lensS L k ≤ lensS L L.length := by
  have e : L = L.take k ++ L.drop k := (List.take_append_drop k L).symm
  unfold lensS
  rw [List.take_of_length_le (Nat.le_refl L.length)]
  conv => rhs; rw [e]
  rw [List.map_append, List.sum_append]
  omega
/-- the hits of the first k cells -/
def hitS (L : List Bx) (C : List (List Int)) (k : Nat) : Nat := ((C.take k).map fun r => L.countP (inB r)).sum
theorem hitS_next {L : List Bx} {C : List (List Int)} {k : Nat} {r : List Int} (h : C[k]? = some r) : hitS L C (k + 1) = hitS L C k + L.countP (inB r) := by
  unfold hitS
  rw [List.take_add_one, h, List.map_append, List.sum_append]
  simp
theorem hitS_le (L : List Bx) (C : List (List Int)) {k : Nat} (hk : k ≤ C.length) : hitS L C k ≤ hitS L C C.length := by
  have e : C = C.take k ++ C.drop k := (List.take_append_drop k C).symm
  unfold hitS
  rw [List.take_of_length_le (Nat.le_refl C.length)]
  conv => rhs; rw [e]
  rw [List.map_append, List.sum_append]
  omega
theorem all_hit {alo ahi blo bhi : List Int} (ha : alo.length = ahi.length) (hb : blo.length = bhi.length) :
    lensS (minusX alo ahi blo bhi) (minusX alo ahi blo bhi).length = hitS (minusX alo ahi blo bhi) (betX alo ahi) (betX alo ahi).length := by
  have h := minus_sum ha hb
  unfold lensS hitS
  rw [List.take_of_length_le (Nat.le_refl _), List.take_of_length_le (Nat.le_refl _)]
  exact h
theorem hitS_bd {alo ahi blo bhi : List Int} (ha : alo.length = ahi.length) (hb : blo.length = bhi.length) : ∀ k, k ≤ (betX alo ahi).length → hitS (minusX alo ahi blo bhi) (betX alo ahi) k ≤ k
  | 0, _ => by simp [hitS]
  | k + 1, hk => by
    have ih := hitS_bd ha hb k (by omega)
    obtain ⟨r, hr⟩ : ∃ r, (betX alo ahi)[k]? = some r := ⟨_, List.getElem?_eq_getElem (by omega)⟩
    rw [hitS_next hr, minus_once ha hb (List.mem_of_getElem? hr)]
    split <;> omega
/-- the hits of one cell in the first j boxes -/
def cntS (L : List Bx) (r : List Int) (j : Nat) : Nat := (L.take j).countP (inB r)
theorem cntS_next {L : List Bx} {r : List Int} {j : Nat} {x : Bx} (h : L[j]? = some x) : cntS L r (j + 1) = cntS L r j + if inX x.1 x.2 r then 1 else 0 := by
  unfold cntS
  rw [List.take_add_one, h, List.countP_append]
  cases hz : inX x.1 x.2 r <;> simp [inB, List.countP_cons, hz]
theorem cntS_all {L : List Bx} {r : List Int} {j : Nat} (h : L.length ≤ j) : cntS L r j = L.countP (inB r) := by
  unfold cntS
  rw [List.take_of_length_le h]
theorem cntS_le {L : List Bx} {r : List Int} {j : Nat} : cntS L r j ≤ j := by
  unfold cntS
  exact Nat.le_trans List.countP_le_length (by rw [List.length_take]; omega)
theorem bet_bound {lo hi : List Int} {most : Int} (hm : most ≤ 9999) (h0 : 0 ≤ most) (h : FewX lo hi most) : (betX lo hi).length ≤ 1000000 := by
  have h1 := few_bound hm h0 h lo.length (Nat.le_refl _)
  rw [bet_len]
  rwa [List.take_of_length_le (by rw [dims_len (by have := h.1; omega)]; omega)] at h1
theorem minus_len {alo ahi blo bhi : List Int} (h5 : alo.length ≤ 5) : (minusX alo ahi blo bhi).length ≤ 10 := by
  have hc : ∀ n, (cutsX alo ahi (meetLo alo blo) (meetHi ahi bhi) n).length ≤ 2 * n := fun n => by
    induction n with
    | zero => simp [cutsX]
    | succ n ih =>
      rw [cutsX_next, List.length_append]
      have := List.length_filter_le fullB [cutX alo ahi (meetLo alo blo) (meetHi ahi bhi) n false, cutX alo ahi (meetLo alo blo) (meetHi ahi bhi) n true]
      simp at this
      omega
  unfold minusX
  split
  · simp
  · split
    · have := hc alo.length
      omega
    · simp
end Go.Proofs.Ythkfjdhakbjllaa
