/- The slices of a piece along an axis can be joined one after the other. No condition beyond what each says. -/
import Derived.Test.YtgbeokfpegdgdaaMg14
namespace Go.Proofs.Ytgbeokfpegdgdaa
open Go.RowKit Go.Shelf
set_option linter.unusedVariables false
set_option linter.unusedSimpArgs false

theorem set_nth {xs : List Int} {k : Nat} (hk : k < xs.length) : xs.set k (nth xs k) = xs := by
  apply List.ext_getElem?
  intro i
  by_cases h : k = i
  · subst h
    rw [List.getElem?_set_self hk, nth_get? hk]
  · rw [List.getElem?_set_ne h]
/-- one slice: what it reads as -/
structure Cut (x : PV) (K : Nat) (i : Int) (y : PV) : Prop where
  lo : y.lo = x.lo.set K (nth x.lo K + i)
  hi : y.hi = x.hi.set K (nth x.lo K + i + 1)
  acc : OneAcc x y
theorem axS_cut {lo hi : List Int} {K : Nat} {a b c d : Int} (hl : lo.length = hi.length) (hK : K < lo.length) (hac : a ≠ c) (hbc : b = c) :
    ∀ k, k ≤ lo.length → axS (lo.set K a) (hi.set K b) (lo.set K c) (hi.set K d) k = some (if k ≤ K then -1 else (K : Int)) := by
  intro k
  induction k with
  | zero => intro _; simp [axS]
  | succ k ih =>
    intro hk
    have := ih (by omega)
    rw [axS, this]
    by_cases h : k = K
    · subst h
      simp only
      rw [nth_set hK, nth_set hK, nth_set (by omega), nth_set (by omega), if_neg (fun h => hac h.1), if_pos ⟨hbc, by rw [if_pos (Nat.le_refl _)]; omega⟩, if_neg (by omega)]
    · simp only
      rw [nth_set_ne h, nth_set_ne h, nth_set_ne h, nth_set_ne h, if_pos ⟨rfl, rfl⟩]
      by_cases hkK : k ≤ K
      · rw [if_pos hkK, if_pos (by omega)]
      · rw [if_neg hkK, if_neg (by omega)]
theorem cut_small {x y : PV} {K : Nat} {i : Int} (hr : RightX x.lo x.hi) (h16 : x.s.length ≤ 16) (hs : ∀ u ∈ x.s, I64 u) (hK : K < x.lo.length) (h : Cut x K i y) (h0 : 0 ≤ i) (h1 : nth x.lo K + i + 1 ≤ nth x.hi K) : PVS y := by
  obtain ⟨a, b, c⟩ := h
  obtain ⟨r1, r2, r3⟩ := hr
  have rk := r3 K hK
  have hlo : ∀ u ∈ x.lo, I64 u := fun u hu => by
    obtain ⟨j, hj, rfl⟩ := List.mem_iff_getElem.1 hu
    have := r3 j hj
    have e : nth x.lo j = x.lo[j] := by simp [nth, hj]
    unfold I64; omega
  have hhi : ∀ u ∈ x.hi, I64 u := fun u hu => by
    obtain ⟨j, hj, rfl⟩ := List.mem_iff_getElem.1 hu
    have := r3 j (by omega)
    have e : nth x.hi j = x.hi[j] := by simp [nth, hj]
    unfold I64; omega
  refine ⟨fun u hu => ?_, fun u hu => ?_, by rw [c.s]; exact hs, by rw [a, List.length_set]; omega, by rw [b, List.length_set]; omega, by rw [c.s]; omega⟩
  · rw [a] at hu
    rcases List.mem_or_eq_of_mem_set hu with h | rfl
    · exact hlo u h
    · unfold I64; omega
  · rw [b] at hu
    rcases List.mem_or_eq_of_mem_set hu with h | rfl
    · exact hhi u h
    · unfold I64; omega
theorem cut_linked {x : PV} {K : Nat} {ys : List PV} (hr : RightX x.lo x.hi) (h16 : x.s.length ≤ 16) (hs : ∀ u ∈ x.s, I64 u) (hK : K < x.lo.length) (hy : ∀ (i : Nat) (y : PV), ys[i]? = some y → Cut x K (i : Int) y) (hlen : (ys.length : Int) = nth x.hi K - nth x.lo K) : Linked ys := by
  intro j a u v z ha hu hv hg
  have ca := hy 0 a ha
  have cu := hy j u hu
  have cv := hy (j + 1) v hv
  have hj := (List.getElem?_eq_some_iff.1 hv).1
  obtain ⟨h1, h2, h3⟩ := hg
  have r1 := hr.1
  have sv := cut_small hr h16 hs hK cv (by omega) (by omega)
  have su := cut_small hr h16 hs hK cu (by omega) (by omega)
  have sa := cut_small hr h16 hs hK ca (by omega) (by omega)
  have e1 : z.lo = x.lo.set K (nth x.lo K) := by rw [h1, ca.lo]; simp
  have e2 : z.hi = x.hi.set K (nth x.lo K + (j : Int) + 1) := by rw [h2, cu.hi]
  have e3 : v.lo = x.lo.set K (nth x.lo K + (j : Int) + 1) := by rw [cv.lo]; congr 1; omega
  have e4 := cv.hi
  have acc : OneAcc x z := ca.acc.trans h3
  refine ⟨⟨cv.acc.k.trans acc.k.symm, cv.acc.b.trans acc.b.symm, cv.acc.e.trans acc.e.symm, cv.acc.s.trans acc.s.symm, cv.acc.st.trans acc.st.symm, cv.acc.sp.trans acc.sp.symm, cv.acc.md.trans acc.md.symm⟩, ?_, ?_, ?_, ?_, ?_, sv⟩
  · rw [e1, e2, List.length_set, List.length_set]; omega
  · rw [e1, e3, List.length_set, List.length_set]
  · rw [e1, e4, List.length_set, List.length_set]; omega
  · have := axS_cut (a := nth x.lo K) (b := nth x.lo K + (j : Int) + 1) (c := nth x.lo K + (j : Int) + 1) (d := nth x.lo K + ((j + 1 : Nat) : Int) + 1) r1 hK (by omega) rfl x.lo.length (Nat.le_refl _)
    unfold axR
    rw [e1, e2, e3, e4, List.length_set, this, if_neg (by omega)]
    simp
  · exact ⟨by rw [h1]; exact sa.lo, by rw [h2]; exact su.hi, by rw [acc.s]; exact hs, by rw [h1]; exact sa.ll, by rw [h2]; exact su.lh, by rw [acc.s]; omega⟩
/-- the piece that is left reads as the piece -/
theorem cut_whole {x a u z : PV} {K : Nat} {m : Nat} (hr : RightX x.lo x.hi) (hK : K < x.lo.length) (ca : Cut x K 0 a) (cu : Cut x K (m : Int) u) (hm : nth x.lo K + (m : Int) + 1 = nth x.hi K) (hg : Glue a u z) : Twin z x := by
  obtain ⟨h1, h2, h3⟩ := hg
  have r1 := hr.1
  have acc : OneAcc x z := ca.acc.trans h3
  refine ⟨?_, ?_, ⟨acc.k.symm, acc.b.symm, acc.e.symm, acc.s.symm, acc.st.symm, acc.sp.symm, acc.md.symm⟩⟩
  · rw [h1, ca.lo, Int.add_zero, set_nth hK]
  · rw [h2, cu.hi, hm, set_nth (by omega)]
end Go.Proofs.Ytgbeokfpegdgdaa
