/- The cells of a small box, in the reference: intarsiaref06.Cells; the bounds that a small range gives. No condition beyond what each says. -/
import Derived.Test.YthkfjdhakbjllaaBox16
namespace Go.Proofs.Ythkfjdhakbjllaa
open Go.RowKit Go.Shelf
set_option linter.unusedVariables false
set_option linter.unusedSimpArgs false

theorem few_le {lo hi : List Int} {M : Int} (hM : M < 1000000) {n : Nat} (hn : fewN lo hi n ≤ M) (h : ∀ j, j < n → NearX lo hi j) : ∀ m, m ≤ n → fewN lo hi (n - m) ≤ M
  | 0, _ => hn
  | m + 1, hm => by
    have ih := few_le hM hn h m (by omega)
    have e : n - m = (n - (m + 1)) + 1 := by omega
    rw [e] at ih
    simp only [fewN] at ih
    have h1 := (fewN_bd (lo := lo) (hi := hi) (n - (m + 1)) fun j hj => h j (by omega)).1
    obtain ⟨a, ha⟩ : ∃ a, min (fewN lo hi (n - (m + 1))) 1000000 = a := ⟨_, rfl⟩
    obtain ⟨b, hb⟩ : ∃ b, max (nth hi (n - (m + 1)) - nth lo (n - (m + 1))) 1 = b := ⟨_, rfl⟩
    rw [ha, hb] at ih
    have h3 : a * 1 ≤ a * b := Int.mul_le_mul_of_nonneg_left (by omega) (by omega)
    omega
theorem all_few {lo hi : List Int} (hle : lo.length ≤ hi.length) {M : Int} (hM : M < 1000000) {n : Nat} (hnl : n ≤ lo.length) (hn : fewN lo hi n ≤ M) (h : ∀ j, j < n → NearX lo hi j) : ∀ k, k ≤ n → ((allX ((dimsX lo hi).take k)).length : Int) ≤ fewN lo hi k
  | 0, _ => by simp [allX, fewN]
  | k + 1, hk => by
    have ih := all_few hle hM hnl hn h k (by omega)
    have h0 := few_le hM hn h (n - k) (by omega)
    rw [show n - (n - k) = k by omega] at h0
    rw [take_nth (by rw [dims_len hle]; omega), allX_snoc, stepA_len, dims_nth hle (by omega)]
    simp only [fewN]
    rw [Int.natCast_mul]
    have e : min (fewN lo hi k) 1000000 = fewN lo hi k := by omega
    rw [e]
    have h2 : ((dmI (nth lo k) (nth hi k)).toNat : Int) ≤ max (nth hi k - nth lo k) 1 := by
      unfold dmI
      split <;> omega
    exact Int.mul_le_mul ih h2 (by omega) (by have := (fewN_bd (lo := lo) (hi := hi) k fun j hj => h j (by omega)).1; omega)
theorem few_bound {lo hi : List Int} {most : Int} (hm : most ≤ 9999) (h0 : 0 ≤ most) (h : FewX lo hi most) : ∀ k, k ≤ lo.length → (allX ((dimsX lo hi).take k)).length ≤ 1000000 := fun k hk => by
  obtain ⟨h1, h2, h3, h4⟩ := h
  have hM : fewN lo hi lo.length ≤ 100 * most := by rcases h4 with h4 | h4 <;> omega
  have h5 := all_few (by omega) (by omega) (Nat.le_refl _) hM h3 k hk
  have h6 := few_le (by omega) hM h3 (lo.length - k) (by omega)
  rw [show lo.length - (lo.length - k) = k by omega] at h6
  omega
theorem RefCells6_any (p q : Option Addr) (c f : Nat) (lo hi : List Int) (most : Int) (hm : most ≤ 9999) (h0 : 0 ≤ most) (hf : FewX lo hi most) (w : World) (h : Ints w p lo) (h' : Ints w q hi) :
    Calls Try.prog 58 #[.agg #[.slice p lo.length c, .slice q hi.length f]] w (RowsRet (betX lo hi) w) := by
  have b1 := below_alloc w (.cells #[.slice p lo.length c, .slice q hi.length f] 65)
  have h1 := h.keep b1
  have h2 := h'.keep b1
  have HF := Lib.hid hf
  have hl := hf.1
  have h5 := hf.2.1
  have HL := Lib.hid hl
  clear hf hl
  go_enter Try.func58, Try.ntmps58
  go_wp2_with fail
  refine (RefBetween_any p q c f lo hi (by have := HL.out; omega) (by omega) HF.out.2.2.1 (few_bound hm h0 HF.out) _ h1 h2).mono ?_
  rintro e1 w1 ⟨⟨po, co, rs, rfl, hro, hrv⟩, hb1⟩
  have hro := hro.mono b1.size
  have hb := below_t b1 hb1
  clear hb1 b1
  go_wp2_with fail
  go_ret
  exact ⟨⟨po, co, rs, rfl, hro, hrv⟩, hb⟩
end Go.Proofs.Ythkfjdhakbjllaa
