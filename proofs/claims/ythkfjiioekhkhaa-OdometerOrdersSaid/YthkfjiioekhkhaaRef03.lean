/- What the reference of layer 3 (gamma) returns: Valid, Offset, Dot, In. -/
import Derived.Test.YthkfjiioekhkhaaRef02
import Derived.Test.YthkfjiioekhkhaaShapePlain
namespace Go.Proofs.Ythkfjiioekhkhaa
open Go.RowKit Go.Shelf

theorem RefValid_any (a b : Option Addr) (c d : Nat) (s ix : List Int) (w : World) (h : Ints w a s) (h' : Ints w b ix) :
    Calls Try.prog 43 #[.slice a s.length c, .slice b ix.length d] w fun e w' => e = .returned (.bool (decide (Valid s ix))) ∧ ∃ n, w' = w.drewN n := by
  have hn := h.small
  have hn' := h'.small
  by_cases hlen : s.length = ix.length
  · have hlb : ((s.length : Int) != (ix.length : Int)) = false := by simp [hlen]
    have Hlen := Lib.hid hlen
    have hle : s.length ≤ ix.length := by omega
    clear hlen
    go_enter Try.func43, Try.ntmps43
    go_wp2
    go_loopw [5] (fun i wr => ∃ k m : Nat, k ≤ s.length ∧ i = .int .i64 k ∧ wr = w.drewN m ∧ Hid (∀ j, j < k → 0 ≤ nth ix j ∧ nth ix j < nth s j)) (fun i _ => s.length - (intOf i).toNat)
    case atStart => exact ⟨0, 0, Nat.zero_le _, rfl, rfl, fun j hj => by omega⟩
    case round =>
      obtain ⟨k, m, hk, rfl, rfl, hI⟩ := hrel
      by_cases hlt : k < s.length
      · have hlt' : k < ix.length := by omega
        obtain ⟨b1, o1, rfl, -, hc⟩ := h.at hlt
        obtain ⟨b2, o2, rfl, -, hc'⟩ := h'.at hlt'
        have hi1 : (k : Int) < (s.length : Int) := by omega
        have hi2 : (k : Int) < (ix.length : Int) := by omega
        by_cases hx : nth ix k < 0
        · have Hi : Hid (decide (Valid s ix) = false) := decide_eq_false fun hv => by have := hv.2 k hlt; omega
          go_wp2
          go_quiet (fail)
          go_wp2
          go_ret
          exact ⟨ret_bool Hi.out.symm, quiet_add _ _ _⟩
        · have hxd : decide (nth ix k < 0) = false := decide_eq_false hx
          by_cases hy : nth s k ≤ nth ix k
          · have Hi : Hid (decide (Valid s ix) = false) := decide_eq_false fun hv => by have := hv.2 k hlt; omega
            go_wp2
            go_quiet (fail)
            go_wp2
            go_ret
            exact ⟨ret_bool Hi.out.symm, quiet_add _ _ _⟩
          · have hyd : decide (nth s k ≤ nth ix k) = false := decide_eq_false hy
            have Hi : Hid (∀ j, j < k + 1 → 0 ≤ nth ix j ∧ nth ix j < nth s j) := by
              intro j hj
              by_cases hjk : j = k
              · subst hjk
                omega
              · exact hI.out j (by omega)
            go_wp2
            go_quiet (fail)
            go_wp2
            go_roundw
            case rel => exact ⟨k + 1, _, by omega, by go_num, rfl, Hi⟩
            case measure => simp [intOf]; omega
      · have Hi : Hid (decide (Valid s ix) = true) := decide_eq_true ⟨Hlen.out, fun j hj => hI.out j (by omega)⟩
        go_wp2
        go_ret
        exact ⟨ret_bool Hi.out.symm, _, rfl⟩
  · have hlb : ((s.length : Int) != (ix.length : Int)) = true := by simp; omega
    have Hi : Hid (decide (Valid s ix) = false) := decide_eq_false fun hv => hlen hv.1
    go_enter Try.func43, Try.ntmps43
    go_wp2
    go_ret
    exact ⟨ret_bool Hi.out.symm, 0, rfl⟩

/-- at a right shape: the offset, or -1 -/
def roffS (s ix : List Int) : Int := if Valid s ix then dotS (strs s) ix else -1

/-- Horner's numbers on the way are less than the products of the dimensions so far -/
theorem horn_bd {s ix : List Int} (hv : Valid s ix) (hp : prod s ≤ 65536) {k : Nat} (hk : k < s.length) {q : Int} (h1 : 0 ≤ q) (h2 : q < prod (s.take k)) :
    0 ≤ q * nth s k ∧ q * nth s k + nth ix k < prod (s.take (k + 1)) ∧ q * nth s k ≤ 65536 ∧ prod (s.take (k + 1)) ≤ 65536 := by
  have hx := hv.2 k hk
  have e : prod (s.take (k + 1)) = prod (s.take k) * nth s k := by
    rw [take_nth hk, prod_append]
    simp [prod_cons, prod_nil]
  have h3 := prod_take_le hv.pos (k + 1)
  have h4 : (q + 1) * nth s k ≤ prod (s.take k) * nth s k := Int.mul_le_mul_of_nonneg_right (by omega) (by omega)
  have h5 : 0 ≤ q * nth s k := Int.mul_nonneg h1 (by omega)
  rw [Int.add_mul, Int.one_mul] at h4
  omega

theorem Shape.prod_le {s ix : List Int} (h : Shape s) (hv : Valid s ix) : prod s ≤ 65536 ∧ cellsS s = prod s := by
  have hz : (0 : Int) ∉ s := fun hz => by have := hv.pos 0 hz; omega
  obtain ⟨h1, h2, h3⟩ := h.cells.2.2 hz
  have := prodL_prod s 1 _ h1
  omega

theorem RefOffset_any (a b : Option Addr) (c d : Nat) (s ix : List Int) (w : World) (h : Ints w a s) (h' : Ints w b ix) (hs : Shape s) :
    Calls Try.prog 22 #[.slice a s.length c, .slice b ix.length d] w fun e w' => e = .returned (.int .i64 (roffS s ix)) ∧ ∃ n, w' = w.drewN n := by
  have hn := h.small
  have hn' := h'.small
  by_cases hv : Valid s ix
  · obtain ⟨hp, -⟩ := hs.prod_le hv
    have hvd : decide (Valid s ix) = true := decide_eq_true hv
    have Hv := Lib.hid hv
    have He : Hid (roffS s ix = horn s ix 0) := by
      unfold Hid roffS
      rw [if_pos hv, horn_eq s ix 0 hv.1]
      simp
    have hle : s.length ≤ ix.length := by have := hv.1; omega
    clear hv
    go_enter Try.func22, Try.ntmps22
    go_wp2_with fail
    refine (RefValid_any _ _ _ _ _ _ _ h h').mono ?_
    rintro e w' ⟨rfl, n0, rfl⟩
    go_wp2_with fail
    go_loopw [5, 6] (fun n i wr => ∃ (k m : Nat) (q : Int), k ≤ s.length ∧ i = .int .i64 k ∧ n = .int .i64 q ∧ wr = w.drewN m ∧ 0 ≤ q ∧ q ≤ 65536 ∧ Hid (q < prod (s.take k) ∧ horn s ix 0 = horn (s.drop k) (ix.drop k) q)) (fun _ i _ => s.length - (intOf i).toNat)
    case atStart => exact ⟨0, _, 0, Nat.zero_le _, rfl, rfl, rfl, by omega, by omega, by simp [prod_nil], rfl⟩
    case round =>
      obtain ⟨k, m, q, hk, rfl, rfl, rfl, hq1, hq2, hI⟩ := hrel
      by_cases hlt : k < s.length
      · have hlt' : k < ix.length := by omega
        obtain ⟨b1, o1, rfl, -, hc⟩ := h.at hlt
        obtain ⟨b2, o2, rfl, -, hc'⟩ := h'.at hlt'
        have hi1 : (k : Int) < (s.length : Int) := by omega
        have hi2 : (k : Int) < (ix.length : Int) := by omega
        obtain ⟨g1, g2, g3, g4⟩ := horn_bd Hv.out hp hlt hq1 hI.out.1
        have hx := Hv.out.2 k hlt
        obtain ⟨hx1, hx2⟩ := hx
        have Hg := Lib.hid g2
        have Hi := Lib.hid (hI.out.2.trans (horn_step hlt hlt'))
        have g5 : q * nth s k + nth ix k ≤ 65536 := by omega
        clear g2 g4
        go_wp2
        go_quiet (fail)
        go_wp2
        go_roundw
        case rel => exact ⟨k + 1, _, _, by omega, by go_num, rfl, rfl, by omega, by omega, Hg.out, Hi.out⟩
        case measure => simp [intOf]; omega
      · have Hi : Hid (roffS s ix = q) := by
          have h1 := He.out
          rw [hI.out.2, List.drop_eq_nil_of_le (by omega)] at h1
          exact h1
        go_wp2
        go_ret
        exact ⟨ret_int Hi.out.symm, _, rfl⟩
  · have hvd : decide (Valid s ix) = false := decide_eq_false hv
    have He : Hid (roffS s ix = -1) := if_neg hv
    go_enter Try.func22, Try.ntmps22
    go_wp2_with fail
    refine (RefValid_any _ _ _ _ _ _ _ h h').mono ?_
    rintro e w' ⟨rfl, n0, rfl⟩
    go_wp2_with fail
    go_ret
    exact ⟨ret_int He.out.symm, _, rfl⟩
end Go.Proofs.Ythkfjiioekhkhaa
