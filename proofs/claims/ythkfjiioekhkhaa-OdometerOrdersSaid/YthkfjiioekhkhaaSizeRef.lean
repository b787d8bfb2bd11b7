/- What the reference's Product and Sum return, at all lists. -/
import Derived.Test.YthkfjiioekhkhaaSize
namespace Go.Proofs.Ythkfjiioekhkhaa
open Go.RowKit Go.Shelf

theorem any_of_take {p : Int → Bool} {xs : List Int} {k : Nat} (hk : ¬ k < xs.length) {b : Bool} (h : (xs.take k).any p = b) : xs.any p = b := by
  rw [List.take_of_length_le (by omega)] at h
  exact h
theorem any_hit {p : Int → Bool} {xs : List Int} {k : Nat} (hk : k < xs.length) (h : p (nth xs k) = true) : xs.any p = true :=
  List.any_eq_true.2 ⟨_, nth_mem hk, h⟩
theorem any_succ {p : Int → Bool} {xs : List Int} {k : Nat} (hk : k < xs.length) : (xs.take (k + 1)).any p = ((xs.take k).any p || p (nth xs k)) := by
  rw [take_nth hk, List.any_append]
  simp

theorem any_or {p : Int → Bool} {xs : List Int} {k : Nat} {z : Bool} (hk : k < xs.length) (h : (xs.take k).any p = z) : (xs.take (k + 1)).any p = (z || p (nth xs k)) := by
  rw [any_succ hk, h]

theorem prodL_yes {xs : List Int} {k : Nat} {q : Int} (hk : k < xs.length) (h : ¬ 65536 < q * nth xs k) : prodL (xs.drop k) q = prodL (xs.drop (k + 1)) (q * nth xs k) := by
  rw [drop_nth hk, prodL, if_neg h]
theorem prodL_no {xs : List Int} {k : Nat} {q : Int} (hk : k < xs.length) (h : 65536 < q * nth xs k) : prodL (xs.drop k) q = none := by
  rw [drop_nth hk, prodL, if_pos h]
theorem sumL_yes {xs : List Int} {k : Nat} {q : Int} (hk : k < xs.length) (h : ¬ 65536 < q + nth xs k) : sumL (xs.drop k) q = sumL (xs.drop (k + 1)) (q + nth xs k) := by
  rw [drop_nth hk, sumL, if_neg h]
theorem sumL_no {xs : List Int} {k : Nat} {q : Int} (hk : k < xs.length) (h : 65536 < q + nth xs k) : sumL (xs.drop k) q = none := by
  rw [drop_nth hk, sumL, if_pos h]

theorem prodR_neg {l : List Int} (h : l.any neg = true) : prodR l = (0, 6) := by simp [prodR, h]
theorem prodR_big {l : List Int} (h1 : l.any neg = false) (h : l.any big = true) : prodR l = (0, 7) := by simp [prodR, h1, h]
theorem prodR_zero {l : List Int} (h1 : l.any neg = false) (h2 : l.any big = false) (h : (l.any fun x => 0 == x) = true) : prodR l = (0, 0) := by simp only [prodR, h1, h2, h]; rfl
theorem prodR_none {l : List Int} (h1 : l.any neg = false) (h2 : l.any big = false) (h3 : (l.any fun x => 0 == x) = false) (h : prodL l 1 = none) : prodR l = (0, 7) := by simp only [prodR, h1, h2, h3, h]; rfl
theorem prodR_some {l : List Int} {n : Int} (h1 : l.any neg = false) (h2 : l.any big = false) (h3 : (l.any fun x => 0 == x) = false) (h : prodL l 1 = some n) : prodR l = (n, 0) := by simp only [prodR, h1, h2, h3, h]; rfl

theorem RefProduct_any (a : Option Addr) (c : Nat) (xs : List Int) (w : World) (h : Ints w a xs) :
    Calls Try.prog 26 #[.slice a xs.length c] w fun e w' => e = .returned (.tuple #[.int .i64 (prodR xs).1, .int .i64 (prodR xs).2]) ∧ w = w' := by
  have hn := h.small
  go_enter Try.func26, Try.ntmps26
  go_wp2
  go_loop [4, 5] (fun zr i => ∃ (k : Nat) (z : Bool), k ≤ xs.length ∧ i = .int .i64 k ∧ zr = .bool z ∧ Hid ((xs.take k).any neg = false ∧ ((xs.take k).any fun x => 0 == x) = z)) (fun _ i => xs.length - (intOf i).toNat)
  case atStart => exact ⟨0, false, Nat.zero_le _, rfl, rfl, by simp [Hid]⟩
  case round =>
    obtain ⟨k, z, hk, rfl, rfl, hI⟩ := hrel
    by_cases hlt : k < xs.length
    · obtain ⟨b, off, rfl, -, hc⟩ := h.at hlt
      by_cases hx : nth xs k < 0
      · have H := Lib.hid (prodR_neg (any_hit hlt (p := neg) (by simp [neg, hx])))
        go_wp2
        go_ret2
        exact ⟨by rw [H.out] <;> rfl, rfl⟩
      · have hn1 := Lib.hid (any_take_succ hlt hI.out.1 (show neg (nth xs k) = false by simp [neg, hx]))
        cases z with
        | true =>
          have hn2 := Lib.hid (any_or hlt hI.out.2)
          go_wp2
          go_round
          case rel => exact ⟨k + 1, true, by omega, by go_num, rfl, hn1.out, hn2.out⟩
          case measure => simp [intOf]; omega
        | false =>
          have hn2 := Lib.hid (any_or hlt hI.out.2)
          by_cases hz : nth xs k = 0
          · have hz2 := Lib.hid (show (false || 0 == nth xs k) = true by simp [hz])
            go_wp2
            go_round
            case rel => exact ⟨k + 1, true, by omega, by go_num, rfl, hn1.out, hn2.out.trans hz2.out⟩
            case measure => simp [intOf]; omega
          · have hz2 := Lib.hid (show (false || 0 == nth xs k) = false by simp; omega)
            have hz3 : (nth xs k == 0) = false := by simp [hz]
            go_wp2
            go_round
            case rel => exact ⟨k + 1, false, by omega, by go_num, rfl, hn1.out, hn2.out.trans hz2.out⟩
            case measure => simp [intOf]; omega
    · have hneg := Lib.hid (any_of_take hlt hI.out.1)
      have hzero := Lib.hid (any_of_take hlt hI.out.2)
      clear hI
      go_wp2
      go_loop [6] (fun i => ∃ k : Nat, k ≤ xs.length ∧ i = .int .i64 k ∧ (xs.take k).any big = false) (fun i => xs.length - (intOf i).toNat)
      case atStart => exact ⟨0, Nat.zero_le _, rfl, by simp⟩
      case round =>
        obtain ⟨k, hk, rfl, hI⟩ := hrel
        have hI := Lib.hid hI
        by_cases hlt : k < xs.length
        · obtain ⟨b, off, rfl, -, hc⟩ := h.at hlt
          by_cases hx : 65536 < nth xs k
          · have H := Lib.hid (prodR_big hneg.out (any_hit hlt (p := big) (by simp [big, hx])))
            go_wp2
            go_ret2
            exact ⟨by rw [H.out] <;> rfl, rfl⟩
          · have hn1 := Lib.hid (any_take_succ hlt hI.out (show big (nth xs k) = false by simp [big, hx]))
            go_wp2
            go_round
            case rel => exact ⟨k + 1, by omega, by go_num, hn1.out⟩
            case measure => simp [intOf]; omega
        · have hbig := Lib.hid (any_of_take hlt hI.out)
          cases z with
          | true =>
            have H := Lib.hid (prodR_zero hneg.out hbig.out hzero.out)
            go_wp2
            go_ret2
            exact ⟨by rw [H.out] <;> rfl, rfl⟩
          | false =>
            have hp := Lib.hid (pos_of hneg.out hbig.out hzero.out)
            go_wp2
            go_loop [7, 8] (fun n i => ∃ (k : Nat) (q : Int), k ≤ xs.length ∧ i = .int .i64 k ∧ n = .int .i64 q ∧ 0 < q ∧ q ≤ 65536 ∧ Hid (prodL xs 1 = prodL (xs.drop k) q)) (fun _ i => xs.length - (intOf i).toNat)
            case atStart => exact ⟨0, 1, Nat.zero_le _, rfl, rfl, by omega, by omega, by simp [Hid]⟩
            case round =>
              obtain ⟨k, q, hk, rfl, rfl, hq1, hq2, hI⟩ := hrel
              by_cases hlt : k < xs.length
              · obtain ⟨b, off, rfl, -, hc⟩ := h.at hlt
                obtain ⟨hx1, hx2⟩ := hp.out _ (nth_mem hlt)
                have hm1 : 0 < q * nth xs k := Int.mul_pos hq1 hx1
                have hm2 : q * nth xs k ≤ 65536 * 65536 := Int.mul_le_mul hq2 hx2 (by omega) (by omega)
                by_cases hx : 65536 < q * nth xs k
                · have H := Lib.hid (prodR_none hneg.out hbig.out hzero.out (hI.out.trans (prodL_no hlt hx)))
                  go_wp2
                  go_ret2
                  exact ⟨by rw [H.out] <;> rfl, rfl⟩
                · have hn1 := Lib.hid (hI.out.trans (prodL_yes hlt hx))
                  go_wp2
                  go_round
                  case rel => exact ⟨k + 1, _, by omega, by go_num, rfl, hm1, by omega, hn1.out⟩
                  case measure => simp [intOf]; omega
              · have H := Lib.hid (prodR_some (n := q) hneg.out hbig.out hzero.out (by rw [hI.out, List.drop_eq_nil_of_le (by omega)]; rfl))
                go_wp2
                go_ret2
                exact ⟨by rw [H.out] <;> rfl, rfl⟩

theorem sumR_neg {l : List Int} (h : l.any neg = true) : sumR l = (0, 6) := by simp [sumR, h]
theorem sumR_big {l : List Int} (h1 : l.any neg = false) (h : l.any big = true) : sumR l = (0, 7) := by simp [sumR, h1, h]
theorem sumR_none {l : List Int} (h1 : l.any neg = false) (h : sumL l 0 = none) : sumR l = (0, 7) := by
  unfold sumR
  rw [h1, h]
  cases l.any big <;> rfl
theorem sumR_some {l : List Int} {n : Int} (h1 : l.any neg = false) (h2 : l.any big = false) (h : sumL l 0 = some n) : sumR l = (n, 0) := by simp only [sumR, h1, h2, h]; rfl

theorem nneg_of {l : List Int} (h1 : l.any neg = false) : ∀ x ∈ l, 0 ≤ x := by
  intro x hx
  have b := List.any_eq_false.1 h1 x hx
  simpa [neg] using b

theorem RefSum_any (a : Option Addr) (c : Nat) (xs : List Int) (w : World) (h : Ints w a xs) :
    Calls Try.prog 28 #[.slice a xs.length c] w fun e w' => e = .returned (.tuple #[.int .i64 (sumR xs).1, .int .i64 (sumR xs).2]) ∧ w = w' := by
  have hn := h.small
  go_enter Try.func28, Try.ntmps28
  go_wp2
  go_loop [5] (fun i => ∃ k : Nat, k ≤ xs.length ∧ i = .int .i64 k ∧ (xs.take k).any neg = false) (fun i => xs.length - (intOf i).toNat)
  case atStart => exact ⟨0, Nat.zero_le _, rfl, by simp⟩
  case round =>
    obtain ⟨k, hk, rfl, hI⟩ := hrel
    have hI := Lib.hid hI
    by_cases hlt : k < xs.length
    · obtain ⟨b, off, rfl, -, hc⟩ := h.at hlt
      by_cases hx : nth xs k < 0
      · have H := Lib.hid (sumR_neg (any_hit hlt (p := neg) (by simp [neg, hx])))
        go_wp2
        go_ret2
        exact ⟨by rw [H.out] <;> rfl, rfl⟩
      · have hn1 := Lib.hid (any_take_succ hlt hI.out (show neg (nth xs k) = false by simp [neg, hx]))
        go_wp2
        go_round
        case rel => exact ⟨k + 1, by omega, by go_num, hn1.out⟩
        case measure => simp [intOf]; omega
    · have hneg := Lib.hid (any_of_take hlt hI.out)
      have hp := Lib.hid (nneg_of hneg.out)
      go_wp2
      go_loop [4, 6] (fun n i => ∃ (k : Nat) (q : Int), k ≤ xs.length ∧ i = .int .i64 k ∧ n = .int .i64 q ∧ 0 ≤ q ∧ q ≤ 65536 ∧ Hid (sumL xs 0 = sumL (xs.drop k) q ∧ (xs.take k).any big = false)) (fun _ i => xs.length - (intOf i).toNat)
      case atStart => exact ⟨0, 0, Nat.zero_le _, rfl, rfl, by omega, by omega, by simp [Hid]⟩
      case round =>
        obtain ⟨k, q, hk, rfl, rfl, hq1, hq2, hI⟩ := hrel
        by_cases hlt : k < xs.length
        · obtain ⟨b, off, rfl, -, hc⟩ := h.at hlt
          have hx1 := hp.out _ (nth_mem hlt)
          by_cases hx : 65536 < nth xs k
          · have H := Lib.hid (sumR_big hneg.out (any_hit hlt (p := big) (by simp [big, hx])))
            go_wp2
            go_ret2
            exact ⟨by rw [H.out] <;> rfl, rfl⟩
          · have hn1 := Lib.hid (any_take_succ hlt hI.out.2 (show big (nth xs k) = false by simp [big, hx]))
            by_cases hy : 65536 < q + nth xs k
            · have H := Lib.hid (sumR_none hneg.out (hI.out.1.trans (sumL_no hlt hy)))
              go_wp2
              go_ret2
              exact ⟨by rw [H.out] <;> rfl, rfl⟩
            · have hn2 := Lib.hid (hI.out.1.trans (sumL_yes hlt hy))
              go_wp2
              go_round
              case rel => exact ⟨k + 1, _, by omega, by go_num, rfl, by omega, by omega, hn2.out, hn1.out⟩
              case measure => simp [intOf]; omega
        · have H := Lib.hid (sumR_some (n := q) hneg.out (any_of_take hlt hI.out.2) (by rw [hI.out.1, List.drop_eq_nil_of_le (by omega)]; rfl))
          go_wp2
          go_ret2
          exact ⟨by rw [H.out] <;> rfl, rfl⟩
end Go.Proofs.Ythkfjiioekhkhaa
