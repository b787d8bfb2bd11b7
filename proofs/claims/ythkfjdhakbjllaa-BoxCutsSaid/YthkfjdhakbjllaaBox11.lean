/- What two boxes have in common: at unequal lengths in the reference; small boxes bound it. No condition beyond what each says. -/
import Derived.Test.YthkfjdhakbjllaaBox10
namespace Go.Proofs.Ythkfjdhakbjllaa
open Go.RowKit Go.Shelf
set_option linter.unusedVariables false
set_option linter.unusedSimpArgs false

set_option maxHeartbeats 2000000 in
theorem RefMeet_len (p q p' q' : Option Addr) (c f c' f' : Nat) (alo ahi blo bhi : List Int) (hne : alo.length ≠ blo.length) (w : World) (h1 : Ints w p alo) (h2 : Ints w q ahi) (h3 : Ints w p' blo) (h4 : Ints w q' bhi) :
    Calls Try.prog 55 #[.agg #[.slice p alo.length c, .slice q ahi.length f], .agg #[.slice p' blo.length c', .slice q' bhi.length f']] w (MeetRet alo ahi blo bhi w) := by
  have hlb : ((alo.length : Int) != (blo.length : Int)) = true := by simp; omega
  have HM : Hid (¬ Meets alo ahi blo bhi) := fun h => hne h.1
  have s1 := h1.small
  have s2 := h3.small
  go_enter Try.func55, Try.ntmps55
  go_wp2_with fail
  refine bodyPost_ret (v := .tuple #[.agg #[.slice none 0 0, .slice none 0 0], .bool false]) (by simp [results, Try.results55, go_sem]) rfl (meetRet_no HM.out ?_)
  exact below_t (below_alloc _ _) (below_t (below_alloc _ _) (below_alloc _ _))
theorem RefMeet_all (p q p' q' : Option Addr) (c f c' f' : Nat) (alo ahi blo bhi : List Int) (hl : alo.length ≤ 1000000) (ha : alo.length = ahi.length) (hb' : blo.length = bhi.length)
    (w : World) (h1 : Ints w p alo) (h2 : Ints w q ahi) (h3 : Ints w p' blo) (h4 : Ints w q' bhi) :
    Calls Try.prog 55 #[.agg #[.slice p alo.length c, .slice q ahi.length f], .agg #[.slice p' blo.length c', .slice q' bhi.length f']] w (MeetRet alo ahi blo bhi w) := by
  by_cases hne : alo.length = blo.length
  · exact RefMeet_any p q p' q' c f c' f' alo ahi blo bhi hl ha hb' hne w h1 h2 h3 h4
  · exact RefMeet_len p q p' q' c f c' f' alo ahi blo bhi hne w h1 h2 h3 h4

/-- lengths of at most 2000 and at most 5 axes bound the product -/
theorem vol_bd {lo hi : List Int} (h : FullX lo hi) (hd : ∀ j, j < lo.length → nth hi j - nth lo j ≤ 2000) : ∀ k, k ≤ lo.length → k ≤ 5 → vol lo hi k ≤ 2000 ^ k
  | 0, _, _ => by simp [vol]
  | k + 1, hk, h5 => by
    have h1 := vol_bd h hd k (by omega) (by omega)
    have h2 := hd k (by omega)
    have h3 := vol_pos h k (by omega)
    have h4 := h k (by omega)
    have h6 : vol lo hi k * (nth hi k - nth lo k) ≤ 2000 ^ k * 2000 := Int.mul_le_mul h1 h2 (by omega) (by omega)
    simp only [vol]
    rw [Int.pow_succ]
    exact h6
theorem vol_small {lo hi : List Int} (h5 : lo.length ≤ 5) (hd : ∀ j, j < lo.length → nth hi j - nth lo j ≤ 2000) : FullX lo hi → vol lo hi lo.length ≤ 9000000000000000000 := fun h => by
  have h1 := vol_bd h hd lo.length (Nat.le_refl _) h5
  have h2 : (2000 : Int) ^ lo.length ≤ 9000000000000000000 := by
    match lo.length, h5 with
    | 0, _ => decide
    | 1, _ => decide
    | 2, _ => decide
    | 3, _ => decide
    | 4, _ => decide
    | 5, _ => decide
  omega
theorem smallX_few {lo hi : List Int} {m : Int} (h : smallX lo hi m = true) : RightX lo hi ∧ FewX lo hi m := by
  unfold smallX rightX at h
  rw [Bool.and_eq_true, decide_eq_true_iff, decide_eq_true_iff] at h
  exact h
theorem meet_small {alo ahi blo bhi : List Int} {m : Int} (h : smallX alo ahi m = true) (hb : blo.length = bhi.length) (he : alo.length = blo.length) : FullX (meetLo alo blo) (meetHi ahi bhi) → vol (meetLo alo blo) (meetHi ahi bhi) (meetLo alo blo).length ≤ 9000000000000000000 := by
  obtain ⟨hr, hf⟩ := smallX_few h
  have ll1 : (meetLo alo blo).length = alo.length := mix_len (by omega)
  refine vol_small (by rw [ll1]; exact hf.2.1) fun j hj => ?_
  rw [ll1] at hj
  have e1 : nth (meetLo alo blo) j = mxI (nth alo j) (nth blo j) := mix_nth hj (by omega)
  have e2 : nth (meetHi ahi bhi) j = mnI (nth ahi j) (nth bhi j) := mix_nth (by have := hr.1; omega) (by have := hr.1; omega)
  have hn := hf.2.2.1 j hj
  unfold NearX at hn
  rw [e1, e2]
  unfold mxI mnI
  split <;> split <;> omega
end Go.Proofs.Ythkfjdhakbjllaa
