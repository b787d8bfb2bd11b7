/- Pieces: what a value of a piece is; the axis along which two pieces can be joined. No condition beyond what each says. -/
import Derived.Test.YtgbeokfpegdgdaaMg2
namespace Go.Proofs.Ytgbeokfpegdgdaa
open Go.RowKit Go.Shelf
set_option linter.unusedVariables false
set_option linter.unusedSimpArgs false

/-- what a piece's nine cells hold -/
structure PV where
  p : Option Addr
  c : Nat
  lo : List Int
  q : Option Addr
  f : Nat
  hi : List Int
  k : Int
  b : Int
  e : Int
  g : Option Addr
  d : Nat
  s : List Int
  st : Int
  sp : Int
  md : Int
/-- the three rows of a piece lie in a world -/
structure PVI (w : World) (x : PV) : Prop where
  lo : Ints w x.p x.lo
  hi : Ints w x.q x.hi
  s : Ints w x.g x.s
theorem PVI.keep {w w' : World} {x : PV} (h : PVI w x) (hb : Below w.heap.size w w') : PVI w' x := ⟨h.lo.keep hb, h.hi.keep hb, h.s.keep hb⟩
/-- the nine cells of a block -/
structure At9 (w : World) (g : Nat) (x : PV) : Prop where
  lt : g < w.heap.size
  c0 : w.cell? ⟨g, 0, none⟩ = some (.slice x.p x.lo.length x.c)
  c1 : w.cell? ⟨g, 1, none⟩ = some (.slice x.q x.hi.length x.f)
  c2 : w.cell? ⟨g, 2, none⟩ = some (.int .i64 x.k)
  c3 : w.cell? ⟨g, 3, none⟩ = some (.int .i64 x.b)
  c4 : w.cell? ⟨g, 4, none⟩ = some (.int .i64 x.e)
  c5 : w.cell? ⟨g, 5, none⟩ = some (.slice x.g x.s.length x.d)
  c6 : w.cell? ⟨g, 6, none⟩ = some (.int .i64 x.st)
  c7 : w.cell? ⟨g, 7, none⟩ = some (.int .i64 x.sp)
  c8 : w.cell? ⟨g, 8, none⟩ = some (.int .i64 x.md)
theorem At9.keep {w w' : World} {g : Nat} {x : PV} (h : At9 w g x) (hb : Below w.heap.size w w') : At9 w' g x :=
  have k := fun i => hb.cell (p := ⟨g, i, none⟩) h.lt
  ⟨Nat.lt_of_lt_of_le h.lt hb.size, (k 0).trans h.c0, (k 1).trans h.c1, (k 2).trans h.c2, (k 3).trans h.c3, (k 4).trans h.c4, (k 5).trans h.c5, (k 6).trans h.c6, (k 7).trans h.c7, (k 8).trans h.c8⟩
theorem At9.new (w : World) (g : Nat) (x : PV) (T : TypeId) (hg : g = w.heap.size) : At9 (w.alloc (.cells #[.slice x.p x.lo.length x.c, .slice x.q x.hi.length x.f, .int .i64 x.k, .int .i64 x.b, .int .i64 x.e, .slice x.g x.s.length x.d, .int .i64 x.st, .int .i64 x.sp, .int .i64 x.md] T)) g x := by
  subst hg
  exact ⟨by simp, by simp [go_sem], by simp [go_sem], by simp [go_sem], by simp [go_sem], by simp [go_sem], by simp [go_sem], by simp [go_sem], by simp [go_sem], by simp [go_sem]⟩
/-- two pieces have one access -/
structure OneAcc (x y : PV) : Prop where
  k : y.k = x.k
  b : y.b = x.b
  e : y.e = x.e
  s : y.s = x.s
  st : y.st = x.st
  sp : y.sp = x.sp
  md : y.md = x.md
theorem OneAcc.rfl (x : PV) : OneAcc x x := ⟨.refl _, .refl _, .refl _, .refl _, .refl _, .refl _, .refl _⟩

theorem acc_same (x y : PV) (h : OneAcc x y) (w : World) (hx : Ints w x.g x.s) (hy : Ints w y.g y.s) :
    Calls Try.prog 21 #[.agg #[.int .i64 x.k, .int .i64 x.b, .int .i64 x.e, .slice x.g x.s.length x.d, .int .i64 x.st, .int .i64 x.sp, .int .i64 x.md], .agg #[.int .i64 y.k, .int .i64 y.b, .int .i64 y.e, .slice y.g y.s.length y.d, .int .i64 y.st, .int .i64 y.sp, .int .i64 y.md]] w fun e w' => e = .returned (.bool true) ∧ Below w.heap.size w w' := by
  obtain ⟨h1, h2, h3, h4, h5, h6, h7⟩ := h
  rw [h1, h2, h3, h5, h6, h7, h4]
  exact ASame_yes _ _ _ _ _ _ _ _ _ _ _ w hx (h4 ▸ hy)
theorem racc_same (x y : PV) (h : OneAcc x y) (w : World) (hx : Ints w x.g x.s) (hy : Ints w y.g y.s) :
    Calls Try.prog 19 #[.agg #[.int .i64 x.k, .int .i64 x.b, .int .i64 x.e, .slice x.g x.s.length x.d, .int .i64 x.st, .int .i64 x.sp, .int .i64 x.md], .agg #[.int .i64 y.k, .int .i64 y.b, .int .i64 y.e, .slice y.g y.s.length y.d, .int .i64 y.st, .int .i64 y.sp, .int .i64 y.md]] w fun e w' => e = .returned (.bool true) ∧ Below w.heap.size w w' := by
  obtain ⟨h1, h2, h3, h4, h5, h6, h7⟩ := h
  rw [h1, h2, h3, h5, h6, h7, h4]
  exact RSame_yes _ _ _ _ _ _ _ _ _ _ _ w hx (h4 ▸ hy)

/-- the axis after k rounds; none: it has been left -/
def axS (lo hi lo' hi' : List Int) : Nat → Option Int
  | 0 => some (-1)
  | k + 1 => match axS lo hi lo' hi' k with
    | none => none
    | some a => if nth lo k = nth lo' k ∧ nth hi k = nth hi' k then some a else if nth hi k = nth lo' k ∧ a < 0 then some (k : Int) else none
def axR (lo hi lo' hi' : List Int) : Int := (axS lo hi lo' hi' lo.length).getD (-1)
theorem axS_none {lo hi lo' hi' : List Int} {k : Nat} (h : axS lo hi lo' hi' k = none) : ∀ m, axS lo hi lo' hi' (k + m) = none := by
  intro m
  induction m with
  | zero => exact h
  | succ m ih => rw [show k + (m + 1) = (k + m) + 1 by omega]; simp [axS, ih]
theorem axR_none {lo hi lo' hi' : List Int} {k : Nat} (h : axS lo hi lo' hi' k = none) (hk : k ≤ lo.length) : axR lo hi lo' hi' = -1 := by
  have := axS_none h (lo.length - k)
  rw [show k + (lo.length - k) = lo.length by omega] at this
  simp [axR, this]
theorem axS_keep {lo hi lo' hi' : List Int} {k : Nat} {a : Int} (h : axS lo hi lo' hi' k = some a) (h1 : (nth lo k == nth lo' k) = true) (h2 : (nth hi k == nth hi' k) = true) : axS lo hi lo' hi' (k + 1) = some a := by
  have h1 := eq_of_beq h1
  have h2 := eq_of_beq h2
  simp [axS, h, h1, h2]
theorem axS_set {lo hi lo' hi' : List Int} {k : Nat} {a : Int} (h : axS lo hi lo' hi' k = some a) (h1 : ((nth lo k == nth lo' k) && (nth hi k == nth hi' k)) = false) (h3 : (nth hi k == nth lo' k) = true) (h4 : decide (a < 0) = true) : axS lo hi lo' hi' (k + 1) = some (k : Int) := by
  have h3 := eq_of_beq h3
  have h4 := of_decide_eq_true h4
  have : ¬ (nth lo k = nth lo' k ∧ nth hi k = nth hi' k) := by
    rintro ⟨e1, e2⟩
    simp [e1, e2] at h1
  rw [axS, h]
  simp only
  rw [if_neg this, if_pos ⟨h3, h4⟩]
theorem axS_left {lo hi lo' hi' : List Int} {k : Nat} {a : Int} (h : axS lo hi lo' hi' k = some a) (h1 : ((nth lo k == nth lo' k) && (nth hi k == nth hi' k)) = false) (h3 : ((nth hi k == nth lo' k) && decide (a < 0)) = false) : axS lo hi lo' hi' (k + 1) = none := by
  have t1 : ¬ (nth lo k = nth lo' k ∧ nth hi k = nth hi' k) := by
    rintro ⟨e1, e2⟩
    simp [e1, e2] at h1
  have t2 : ¬ (nth hi k = nth lo' k ∧ a < 0) := by
    rintro ⟨e1, e2⟩
    simp [e1, e2] at h3
  rw [axS, h]
  simp only
  rw [if_neg t1, if_neg t2]

set_option maxRecDepth 100000 in
set_option maxHeartbeats 4000000 in
theorem Axis_any (x y : PV) (h : OneAcc x y) (hl1 : x.hi.length = x.lo.length) (hl2 : y.lo.length = x.lo.length) (hl3 : y.hi.length = x.lo.length) (w : World) (hx : PVI w x) (hy : PVI w y) :
    Calls Try.prog 12 #[.agg #[.slice x.p x.lo.length x.c, .slice x.q x.hi.length x.f, .int .i64 x.k, .int .i64 x.b, .int .i64 x.e, .slice x.g x.s.length x.d, .int .i64 x.st, .int .i64 x.sp, .int .i64 x.md], .agg #[.slice y.p y.lo.length y.c, .slice y.q y.hi.length y.f, .int .i64 y.k, .int .i64 y.b, .int .i64 y.e, .slice y.g y.s.length y.d, .int .i64 y.st, .int .i64 y.sp, .int .i64 y.md]] w fun e w' => e = .returned (.int .i64 (axR x.lo x.hi y.lo y.hi)) ∧ Below w.heap.size w w' := by
  have hn := hx.lo.small
  have b2 := below_t (below_alloc w (.cells #[.slice x.p x.lo.length x.c, .slice x.q x.hi.length x.f, .int .i64 x.k, .int .i64 x.b, .int .i64 x.e, .slice x.g x.s.length x.d, .int .i64 x.st, .int .i64 x.sp, .int .i64 x.md] 36)) (below_alloc _ (.cells #[.slice y.p y.lo.length y.c, .slice y.q y.hi.length y.f, .int .i64 y.k, .int .i64 y.b, .int .i64 y.e, .slice y.g y.s.length y.d, .int .i64 y.st, .int .i64 y.sp, .int .i64 y.md] 36))
  have L1 := Lib.hid hl1
  have L2 := Lib.hid hl2
  have L3 := Lib.hid hl3
  clear hl1 hl2 hl3
  go_enter Try.func12, Try.ntmps12
  go_wp2_with fail
  refine (acc_same x y h _ (hx.s.keep b2) (hy.s.keep b2)).mono ?_
  rintro e1 w1 ⟨rfl, hb1⟩
  have A := ((At9.new w _ x 36 rfl).keep (below_alloc _ (.cells #[.slice y.p y.lo.length y.c, .slice y.q y.hi.length y.f, .int .i64 y.k, .int .i64 y.b, .int .i64 y.e, .slice y.g y.s.length y.d, .int .i64 y.st, .int .i64 y.sp, .int .i64 y.md] 36))).keep hb1
  have B := (At9.new (w.alloc (.cells #[.slice x.p x.lo.length x.c, .slice x.q x.hi.length x.f, .int .i64 x.k, .int .i64 x.b, .int .i64 x.e, .slice x.g x.s.length x.d, .int .i64 x.st, .int .i64 x.sp, .int .i64 x.md] 36)) (w.heap.size + 1) y 36 (by simp)).keep hb1
  have b3 := below_t b2 hb1
  have hx := hx.keep b3
  have hy := hy.keep b3
  have hA0 := A.c0
  have hA1 := A.c1
  have hB0 := B.c0
  have hB1 := B.c1
  clear A B hb1 b2
  go_wp2_with fail
  go_loop [5, 20] (fun n i => ∃ (j : Nat) (a : Int), j ≤ x.lo.length ∧ i = .int .i64 j ∧ n = .int .i64 a ∧ Hid (axS x.lo x.hi y.lo y.hi j = some a)) (fun _ i => x.lo.length - (intOf i).toNat)
  case atStart => exact ⟨0, -1, Nat.zero_le _, rfl, rfl, rfl⟩
  case round =>
    obtain ⟨j, a, hj, rfl, rfl, hI⟩ := hrel
    by_cases hlt : j < x.lo.length
    · have l1 : j < x.hi.length := by rw [L1.out]; exact hlt
      have l2 : j < y.lo.length := by rw [L2.out]; exact hlt
      have l3 : j < y.hi.length := by rw [L3.out]; exact hlt
      obtain ⟨g1, o1, e1, -, k1⟩ := hx.lo.at hlt
      obtain ⟨g2, o2, e2, -, k2⟩ := hx.hi.at l1
      obtain ⟨g3, o3, e3, -, k3⟩ := hy.lo.at l2
      obtain ⟨g4, o4, e4, -, k4⟩ := hy.hi.at l3
      rw [e1] at hA0
      rw [e2] at hA1
      rw [e3] at hB0
      rw [e4] at hB1
      have i1 : (j : Int) < (x.lo.length : Int) := by omega
      have i2 : (j : Int) < (x.hi.length : Int) := by omega
      have i3 : (j : Int) < (y.lo.length : Int) := by omega
      have i4 : (j : Int) < (y.hi.length : Int) := by omega
      by_cases hc : ((nth x.lo j == nth y.lo j) && (nth x.hi j == nth y.hi j)) = true
      · have q1 : (nth x.lo j == nth y.lo j) = true := by rw [Bool.and_eq_true] at hc; exact hc.1
        have q2 : (nth x.hi j == nth y.hi j) = true := by rw [Bool.and_eq_true] at hc; exact hc.2
        have HN := Lib.hid (axS_keep hI.out q1 q2)
        clear hc hI
        simp only [e1]
        go_wp2_with fail
        go_round
        case rel => exact ⟨j + 1, a, by omega, by go_num, rfl, HN⟩
        case measure => simp [intOf]; omega
      · have hc : ((nth x.lo j == nth y.lo j) && (nth x.hi j == nth y.hi j)) = false := by simpa using hc
        by_cases hd : ((nth x.hi j == nth y.lo j) && decide (a < 0)) = true
        · have q3 : (nth x.hi j == nth y.lo j) = true := by rw [Bool.and_eq_true] at hd; exact hd.1
          have q4 : decide (a < 0) = true := by rw [Bool.and_eq_true] at hd; exact hd.2
          have HN := Lib.hid (axS_set hI.out hc q3 q4)
          clear hI hd
          cases q1 : (nth x.lo j == nth y.lo j) with
          | true =>
            have q2 : (nth x.hi j == nth y.hi j) = false := by simpa [q1] using hc
            clear hc
            go_wp2_with fail
            go_round
            case rel => exact ⟨j + 1, j, by omega, by go_num, rfl, HN⟩
            case measure => simp [intOf]; omega
          | false =>
            clear hc
            go_wp2_with fail
            go_round
            case rel => exact ⟨j + 1, j, by omega, by go_num, rfl, HN⟩
            case measure => simp [intOf]; omega
        · have hd : ((nth x.hi j == nth y.lo j) && decide (a < 0)) = false := by simpa using hd
          have HR := Lib.hid (axR_none (axS_left hI.out hc hd) hlt)
          clear hI
          cases q3 : (nth x.hi j == nth y.lo j) with
          | true =>
            have q4 : decide (a < 0) = false := by simpa [q3] using hd
            clear hd
            cases q1 : (nth x.lo j == nth y.lo j) with
            | true =>
              have q2 : (nth x.hi j == nth y.hi j) = false := by simpa [q1] using hc
              clear hc
              go_wp2_with fail
              go_ret
              exact ⟨ret_int HR.out.symm, b3⟩
            | false =>
              clear hc
              go_wp2_with fail
              go_ret
              exact ⟨ret_int HR.out.symm, b3⟩
          | false =>
            clear hd
            cases q1 : (nth x.lo j == nth y.lo j) with
            | true =>
              have q2 : (nth x.hi j == nth y.hi j) = false := by simpa [q1] using hc
              clear hc
              go_wp2_with fail
              go_ret
              exact ⟨ret_int HR.out.symm, b3⟩
            | false =>
              clear hc
              go_wp2_with fail
              go_ret
              exact ⟨ret_int HR.out.symm, b3⟩
    · have HR : Hid (axR x.lo x.hi y.lo y.hi = a) := by
        have := hI.out
        rw [show j = x.lo.length by omega] at this
        simp [Hid, axR, this]
      have i1 : ¬ (j : Int) < (x.lo.length : Int) := by omega
      go_wp2_with fail
      go_ret
      exact ⟨ret_int HR.out.symm, b3⟩
end Go.Proofs.Ytgbeokfpegdgdaa
