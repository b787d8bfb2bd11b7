/- BoxShifts: the plain law, and the walk at an axis that is there. No condition beyond what each says. -/
import Derived.Test.YthkfjdhakbjllaaLaw06d
namespace Go.Proofs.Ythkfjdhakbjllaa
open Go.RowKit Go.Shelf
set_option linter.unusedVariables false
set_option linter.unusedSimpArgs false

theorem shift_ok {lo hi : List Int} {a : Nat} {b : Int} (hr : RightX lo hi) (ha : a < lo.length) : ShiftOk lo hi a b ↔ ¬ (nth lo a + b < 0 ∨ 65536 < nth hi a + b) := by
  obtain ⟨h1, h2, h3⟩ := hr
  unfold ShiftOk RightX
  rw [List.length_set, List.length_set]
  constructor
  · rintro ⟨-, -, h⟩
    have := h a ha
    rw [nth_setX ha, nth_setX (by omega), if_pos rfl, if_pos rfl] at this
    omega
  · intro h
    refine ⟨h1, h2, fun j hj => ?_⟩
    rw [nth_setX ha, nth_setX (by omega)]
    have := h3 j hj
    by_cases e : j = a
    · subst e
      rw [if_pos rfl, if_pos rfl]
      omega
    · rw [if_neg e, if_neg e]
      exact this
theorem shift_vol {lo hi : List Int} {a : Nat} {b : Int} (ha : a < lo.length) (ha' : a < hi.length) : ∀ k, vol (lo.set a (nth lo a + b)) (hi.set a (nth hi a + b)) k = vol lo hi k
  | 0 => rfl
  | k + 1 => by
    simp only [vol]
    rw [shift_vol ha ha' k, nth_setX ha, nth_setX ha']
    by_cases e : k = a
    · subst e
      rw [if_pos rfl, if_pos rfl]
      congr 1
      omega
    · rw [if_neg e, if_neg e]
theorem shift_full {lo hi : List Int} {a : Nat} {b : Int} (ha : a < lo.length) (ha' : a < hi.length) : FullX (lo.set a (nth lo a + b)) (hi.set a (nth hi a + b)) ↔ FullX lo hi := by
  unfold FullX
  rw [List.length_set]
  refine forall_congr' fun j => forall_congr' fun hj => ?_
  rw [nth_setX ha, nth_setX ha']
  by_cases e : j = a
  · subst e
    rw [if_pos rfl, if_pos rfl]
    omega
  · rw [if_neg e, if_neg e]
theorem shift_count {lo hi : List Int} {a : Nat} {b : Int} (ha : a < lo.length) (ha' : a < hi.length) : countX (lo.set a (nth lo a + b)) (hi.set a (nth hi a + b)) = countX lo hi := by
  unfold countX
  rw [List.length_set, shift_vol ha ha']
  by_cases h : FullX lo hi
  · rw [if_pos h, if_pos ((shift_full ha ha').2 h)]
  · rw [if_neg h, if_neg fun k => h ((shift_full ha ha').1 k)]
theorem shift_inX {lo hi r : List Int} {a : Nat} {b : Int} (ha : a < lo.length) (ha' : a < hi.length) (h : InX lo hi r) : inX (lo.set a (nth lo a + b)) (hi.set a (nth hi a + b)) (r.set a (nth r a + b)) = true := by
  obtain ⟨h1, h2⟩ := h
  refine decide_eq_true ⟨by rw [List.length_set, List.length_set]; exact h1, fun j hj => ?_⟩
  rw [List.length_set] at hj
  rw [nth_setX ha, nth_setX ha', nth_setX (by omega)]
  have := h2 j hj
  by_cases e : j = a
  · subst e
    rw [if_pos rfl, if_pos rfl, if_pos rfl]
    omega
  · rw [if_neg e, if_neg e, if_neg e]
    exact this
theorem set_set_back {xs : List Int} {a : Nat} {b : Int} (ha : a < xs.length) : (xs.set a (nth xs a + b)).set a (nth (xs.set a (nth xs a + b)) a + -b) = xs := by
  refine nth_ext (by simp) fun j hj => ?_
  rw [List.length_set, List.length_set] at hj
  rw [nth_setX (by rw [List.length_set]; exact ha), nth_setX ha, nth_setX ha, if_pos rfl]
  by_cases e : j = a
  · subst e
    rw [if_pos rfl]
    omega
  · rw [if_neg e, if_neg e]

/-- a box in memory beside the variable of one box -/
theorem one_in (w : World) (A1 A2 : Value) : ∃ W, Hid (w.alloc (.cells #[A1, A2] 65) = W) ∧ Below w.heap.size w W ∧ VR W w.heap.size A1 A2 := ⟨_, rfl, below_alloc _ _, VR.new w A1 A2⟩

set_option maxRecDepth 100000 in
set_option maxHeartbeats 2000000 in
theorem Shifts_out (p q : Option Addr) (c f : Nat) (lo hi : List Int) (a s : Int) (hno : smallX lo hi 200 = true → a < 0 ∨ (lo.length : Int) ≤ a ∨ 65536 < s ∨ s < -65536) (w : World) (h : Ints w p lo) (h' : Ints w q hi) :
    Calls Try.prog 14 #[.agg #[.slice p lo.length c, .slice q hi.length f], .int .i64 a, .int .i64 s] w fun e w' => e = .returned (.bool true) ∧ Below w.heap.size w w' := by
  obtain ⟨W, HW, hb, A⟩ := one_in w (.slice p lo.length c) (.slice q hi.length f)
  have h := h.keep hb
  have h' := h'.keep hb
  have hn := h.small
  have HNO := Lib.hid hno
  clear hno
  go_enter Try.func14, Try.ntmps14
  go_wp2_with fail
  rw [HW.out]
  clear HW
  refine (awake06 W).mono ?_
  rintro e1 w1 ⟨rfl, hb1⟩
  have A := A.keep hb1
  have hA0 := A.c0
  have hA1 := A.c1
  have h := h.keep hb1
  have h' := h'.keep hb1
  have hb := below_t hb hb1
  clear hb1
  go_wp2_with fail
  clear hA0 hA1
  refine (RefSmall6_any p q c f lo hi 200 (by decide) _ rfl _ h h').mono ?_
  rintro e2 w2 ⟨rfl, hb2⟩
  have A := A.keep hb2
  have hA0 := A.c0
  have hA1 := A.c1
  have h := h.keep hb2
  have h' := h'.keep hb2
  have hb := below_t hb hb2
  clear hb2
  cases sa : smallX lo hi 200 with
  | false =>
    go_wp2_with fail
    refine (awake06 _).mono ?_
    rintro e5 w5 ⟨rfl, hb5⟩
    have hb := below_t hb hb5
    go_wp2_with fail
    go_ret
    exact ⟨rfl, hb⟩
  | true =>
    have HN := Lib.hid (HNO.out sa)
    clear sa HNO
    go_wp2_with fail
    clear hA0 hA1
    refine (Shift_out p q c f lo hi a s hn HN.out _).mono ?_
    rintro e3 w3 ⟨rfl, hb3⟩
    have hba := below_alloc w3 (.cells #[.slice none 0 0, .slice none 0 0] 67)
    have A3 := A.keep hb3
    have hA0 := A3.c0
    have hlt3 := A3.own.lt
    have hq := fun o => (below_alloc w3 o).cell (p := ⟨w.heap.size, 0, none⟩) hlt3
    rw [hA0] at hq
    have hb := below_t (below_t hb hb3) hba
    clear hb3 hba A hlt3 hA0 A3
    by_cases g1 : a < 0
    · have d1 : decide (a < 0) = true := decide_eq_true g1
      clear g1
      go_wp2_with fail
      go_ret
      exact ⟨rfl, hb⟩
    have d1 : decide (a < 0) = false := decide_eq_false g1
    by_cases g2 : (lo.length : Int) ≤ a
    · have d2 : decide ((lo.length : Int) ≤ a) = true := decide_eq_true g2
      clear g1 g2
      go_wp2_with fail
      go_ret
      exact ⟨rfl, hb⟩
    have d2 : decide ((lo.length : Int) ≤ a) = false := decide_eq_false g2
    by_cases g3 : 65536 < s
    · have d3 : decide (65536 < s) = true := decide_eq_true g3
      clear g1 g2 g3
      go_wp2_with fail
      go_ret
      exact ⟨rfl, hb⟩
    have d3 : decide (65536 < s) = false := decide_eq_false g3
    have d4 : decide (s < -65536) = true := decide_eq_true (by have := HN.out; omega)
    clear g1 g2 g3
    go_wp2_with fail
    go_ret
    exact ⟨rfl, hb⟩
end Go.Proofs.Ythkfjdhakbjllaa
