/- What the reference of layer 2 (shape) returns: Check, Cells, Equal, Small, at all lists. -/
import Derived.Test.YthkfjiioekhkhaaSizeRef
namespace Go.Proofs.Ythkfjiioekhkhaa
open Go.RowKit Go.Shelf

/-- the error of a shape -/
def shapeS (s : List Int) : Int := if s.any neg then 6 else if 16 < s.length then 7 else (prodR s).2
def cellsS (s : List Int) : Int := if shapeS s = 0 then (prodR s).1 else 0

theorem prodR_err (s : List Int) : (prodR s).2 = 0 ∨ (prodR s).2 = 6 ∨ (prodR s).2 = 7 := by
  unfold prodR
  split
  · simp
  split
  · simp
  split
  · simp
  split <;> simp

theorem prodR_six (s : List Int) (h : s.any neg = false) : (prodR s).2 = 0 ∨ (prodR s).2 = 7 := by
  unfold prodR
  rw [h]
  simp only [Bool.false_eq_true, if_false]
  split
  · simp
  split
  · simp
  split <;> simp

theorem shapeS_cases (s : List Int) : shapeS s = 6 ∨ shapeS s = 7 ∨ shapeS s = 0 := by
  unfold shapeS
  split
  · simp
  split
  · simp
  · rcases prodR_err s with h | h | h <;> simp [h]

structure Shape (s : List Int) : Prop where
  neg : s.any neg = false
  len : s.length ≤ 16
  err : (prodR s).2 = 0

theorem shapeS_zero {s : List Int} : shapeS s = 0 ↔ Shape s := by
  unfold shapeS
  constructor
  · intro h
    split at h
    · simp at h
    split at h
    · simp at h
    rename_i h1 h2
    exact ⟨by simpa using h1, by omega, h⟩
  · rintro ⟨h1, h2, h3⟩
    rw [h1, if_neg (by simp), if_neg (by omega), h3]

theorem Shape.dims {s : List Int} (h : Shape s) : ∀ x ∈ s, 0 ≤ x ∧ x ≤ 65536 := by
  have h1 := h.neg
  have h2 := h.err
  unfold prodR at h2
  rw [h1] at h2
  simp only [Bool.false_eq_true, if_false] at h2
  split at h2
  · simp at h2
  rename_i hb
  exact checkS_ok (checkS_zero h1 (by simpa using hb))

theorem any_zero {s : List Int} : (s.any fun x => 0 == x) = true ↔ (0 : Int) ∈ s := by
  rw [List.any_eq_true]
  constructor
  · rintro ⟨x, hx, h⟩
    have : (0 : Int) = x := by simpa using h
    exact this ▸ hx
  · intro h
    exact ⟨0, h, by simp⟩

theorem Shape.nobig {s : List Int} (h : Shape s) : s.any big = false := by
  rw [List.any_eq_false]
  intro x hx
  have := h.dims x hx
  simp [big]
  omega

/-- a right shape: its cells are the product of its dimensions -/
theorem Shape.cells {s : List Int} (h : Shape s) : cellsS s = (prodR s).1 ∧ ((0 : Int) ∈ s → cellsS s = 0) ∧ ((0 : Int) ∉ s → prodL s 1 = some (cellsS s) ∧ 0 < cellsS s ∧ cellsS s ≤ 65536) := by
  have e : cellsS s = (prodR s).1 := by unfold cellsS; rw [if_pos (shapeS_zero.2 h)]
  refine ⟨e, fun hz => ?_, fun hz => ?_⟩
  · rw [e, prodR_zero h.neg h.nobig (any_zero.2 hz)]
  · have hz' : (s.any fun x => 0 == x) = false := by
      cases hh : (s.any fun x => 0 == x) with
      | true => exact absurd (any_zero.1 hh) hz
      | false => rfl
    have hp := pos_of h.neg h.nobig hz'
    cases hl : prodL s 1 with
    | none =>
      have := h.err
      rw [prodR_none h.neg h.nobig hz' hl] at this
      simp at this
    | some n =>
      rw [e, prodR_some h.neg h.nobig hz' hl]
      have := prodL_bd s 1 n (by omega) (by omega) hp hl
      exact ⟨rfl, this.1, this.2⟩

theorem cellsS_bd (s : List Int) : 0 ≤ cellsS s ∧ cellsS s ≤ 65536 := by
  by_cases h : shapeS s = 0
  · have hs := shapeS_zero.1 h
    by_cases hz : (0 : Int) ∈ s
    · have := hs.cells.2.1 hz
      omega
    · have := hs.cells.2.2 hz
      omega
  · unfold cellsS
    rw [if_neg h]
    omega

theorem RefProduct_is (xs : List Int) (p q : Int) (hr : prodR xs = (p, q)) (a : Option Addr) (c : Nat) (w : World) (h : Ints w a xs) :
    Calls Try.prog 26 #[.slice a xs.length c] w fun e w' => e = .returned (.tuple #[.int .i64 p, .int .i64 q]) ∧ w = w' := by
  have := RefProduct_any a c xs w h
  rw [hr] at this
  exact this

theorem RefCheck_any (a : Option Addr) (c : Nat) (xs : List Int) (w : World) (h : Ints w a xs) :
    Calls Try.prog 42 #[.slice a xs.length c] w fun e w' => e = .returned (.int .i64 (shapeS xs)) ∧ w = w' := by
  have hn := h.small
  go_enter Try.func42, Try.ntmps42
  go_wp2
  go_loop [3] (fun i => ∃ k : Nat, k ≤ xs.length ∧ i = .int .i64 k ∧ (xs.take k).any neg = false) (fun i => xs.length - (intOf i).toNat)
  case atStart => exact ⟨0, Nat.zero_le _, rfl, by simp⟩
  case round =>
    obtain ⟨k, hk, rfl, hno⟩ := hrel
    have Hno := Lib.hid hno
    clear hno
    by_cases hlt : k < xs.length
    · obtain ⟨b, off, rfl, -, hc⟩ := h.at hlt
      by_cases hx : nth xs k < 0
      · have H : Hid (shapeS xs = 6) := by unfold shapeS; rw [any_hit hlt (p := neg) (by simp [neg, hx]), if_pos rfl]; rfl
        go_wp2
        go_ret
        exact ⟨ret_int H.out.symm, rfl⟩
      · have Hi := Lib.hid (any_take_succ hlt Hno.out (show neg (nth xs k) = false by simp [neg, hx]))
        go_wp2
        go_round
        case rel => exact ⟨k + 1, by omega, by go_num, Hi.out⟩
        case measure => simp [intOf]; omega
    · have Hneg := Lib.hid (any_of_take hlt Hno.out)
      clear Hno
      by_cases hl : 16 < xs.length
      · have H : Hid (shapeS xs = 7) := by unfold shapeS; rw [Hneg.out, if_neg (by simp), if_pos hl]; rfl
        go_wp2_with fail
        refine (RefProduct_any _ _ _ _ h).mono ?_
        rintro e w' ⟨rfl, rfl⟩
        go_wp2_with fail
        go_ret
        exact ⟨ret_int H.out.symm, rfl⟩
      · obtain ⟨p, q, hpq⟩ : ∃ p q, prodR xs = (p, q) := ⟨_, _, rfl⟩
        have hq := prodR_six xs Hneg.out
        have H : Hid (shapeS xs = q) := by unfold shapeS; rw [Hneg.out, if_neg (by simp), if_neg hl, hpq]; rfl
        rw [hpq] at hq
        have Hp := Lib.hid (RefProduct_is xs p q hpq)
        clear hpq
        rcases hq with hq | hq
        · obtain rfl : q = 0 := hq
          go_wp2_with fail
          refine (Hp.out _ _ _ h).mono ?_
          rintro e w' ⟨rfl, rfl⟩
          go_wp2_with fail
          go_ret
          exact ⟨ret_int H.out.symm, rfl⟩
        · obtain rfl : q = 7 := hq
          go_wp2_with fail
          refine (Hp.out _ _ _ h).mono ?_
          rintro e w' ⟨rfl, rfl⟩
          go_wp2_with fail
          go_ret
          exact ⟨ret_int H.out.symm, rfl⟩

theorem RefCells_any (a : Option Addr) (c : Nat) (xs : List Int) (w : World) (h : Ints w a xs) :
    Calls Try.prog 23 #[.slice a xs.length c] w fun e w' => e = .returned (.int .i64 (cellsS xs)) ∧ w = w' := by
  by_cases hz : shapeS xs = 0
  · have e : cellsS xs = (prodR xs).1 := by unfold cellsS; rw [if_pos hz]
    rw [e]
    clear e
    go_enter Try.func23, Try.ntmps23
    go_wp2_with fail
    refine (RefCheck_any _ _ _ _ h).mono ?_
    rintro e w' ⟨rfl, rfl⟩
    go_wp2_with fail
    refine (RefProduct_any _ _ _ _ h).mono ?_
    rintro e w' ⟨rfl, rfl⟩
    go_wp2_with fail
    go_ret
    exact ⟨rfl, rfl⟩
  · have e : cellsS xs = 0 := by unfold cellsS; rw [if_neg hz]
    rw [e]
    clear e
    have hb : (shapeS xs != 0) = true := by simp [hz]
    go_enter Try.func23, Try.ntmps23
    go_wp2_with fail
    refine (RefCheck_any _ _ _ _ h).mono ?_
    rintro e w' ⟨rfl, rfl⟩
    go_wp2_with fail
    go_ret
    exact ⟨rfl, rfl⟩

/-- whether two lists are one -/
def eqS (xs ys : List Int) : Bool := decide (xs = ys)

theorem RefEqual_any (a b : Option Addr) (c d : Nat) (xs ys : List Int) (w : World) (h : Ints w a xs) (h' : Ints w b ys) :
    Calls Try.prog 19 #[.slice a xs.length c, .slice b ys.length d] w fun e w' => e = .returned (.bool (eqS xs ys)) ∧ ∃ n, w' = w.drewN n := by
  have hn := h.small
  have hn' := h'.small
  by_cases hlen : xs.length = ys.length
  · have hlb : ((xs.length : Int) != (ys.length : Int)) = false := by simp [hlen]
    have Hlen := Lib.hid hlen
    have hle : xs.length ≤ ys.length := by omega
    have hge : ys.length ≤ xs.length := by omega
    clear hlen
    go_enter Try.func19, Try.ntmps19
    go_wp2
    go_loopw [5] (fun i wr => ∃ k m : Nat, k ≤ xs.length ∧ i = .int .i64 k ∧ wr = w.drewN m ∧ Hid (xs.take k = ys.take k)) (fun i _ => xs.length - (intOf i).toNat)
    case atStart => exact ⟨0, 0, Nat.zero_le _, rfl, rfl, by simp [Hid]⟩
    case round =>
      obtain ⟨k, m, hk, rfl, rfl, hI⟩ := hrel
      by_cases hlt : k < xs.length
      · have hlt' : k < ys.length := by omega
        obtain ⟨b1, o1, rfl, -, hc⟩ := h.at hlt
        obtain ⟨b2, o2, rfl, -, hc'⟩ := h'.at hlt'
        have hi1 : (k : Int) < (xs.length : Int) := by omega
        have hi2 : (k : Int) < (ys.length : Int) := by omega
        by_cases hx : nth xs k = nth ys k
        · have hxb : (nth xs k != nth ys k) = false := by simp [hx]
          have Hx := Lib.hid hx
          clear hx
          have Hi : Hid (xs.take (k + 1) = ys.take (k + 1)) := by unfold Hid; rw [take_nth hlt, take_nth hlt', hI.out, Hx.out]
          go_wp2
          go_quiet (fail)
          go_wp2
          go_roundw
          case rel => exact ⟨k + 1, _, by omega, by go_num, rfl, Hi⟩
          case measure => simp [intOf]; omega
        · have hxb : (nth xs k != nth ys k) = true := by simp [hx]
          have Hi : Hid (eqS xs ys = false) := by
            unfold Hid eqS
            rw [decide_eq_false_iff_not]
            rintro rfl
            exact hx rfl
          clear hx
          go_wp2
          go_quiet (fail)
          go_wp2
          go_ret
          exact ⟨ret_bool Hi.out.symm, quiet_add _ _ _⟩
      · have Hi : Hid (eqS xs ys = true) := by
          have := hI.out
          rw [List.take_of_length_le (by omega), List.take_of_length_le (by omega)] at this
          simp [Hid, eqS, this]
        go_wp2
        go_ret
        exact ⟨ret_bool Hi.out.symm, _, rfl⟩
  · have hlb : ((xs.length : Int) != (ys.length : Int)) = true := by simp; omega
    have Hi : Hid (eqS xs ys = false) := by
      unfold Hid eqS
      rw [decide_eq_false_iff_not]
      rintro rfl
      exact hlen rfl
    go_enter Try.func19, Try.ntmps19
    go_wp2
    go_ret
    exact ⟨ret_bool Hi.out.symm, 0, rfl⟩
end Go.Proofs.Ythkfjiioekhkhaa
