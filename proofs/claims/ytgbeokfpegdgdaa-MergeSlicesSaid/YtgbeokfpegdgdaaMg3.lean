/- The reference's Right of an access at any rank: it comes back. No condition beyond what each says. -/
import Derived.Test.YtgbeokfpegdgdaaMg2
namespace Go.Proofs.Ytgbeokfpegdgdaa
open Go.RowKit Go.Shelf
set_option linter.unusedVariables false
set_option linter.unusedSimpArgs false

set_option maxHeartbeats 1000000 in
theorem RAny_far (k b e : Int) (p : Option Addr) (c : Nat) (s : List Int) (st sp md : Int) (r : Nat) (w : World) (h : Ints w p s) (hr : r ≤ 16) (hb : bndB 1099511627776 b e s st sp md = false) :
    Calls Try.prog 14 #[.agg #[.int .i64 k, .int .i64 b, .int .i64 e, .slice p s.length c, .int .i64 st, .int .i64 sp, .int .i64 md], .int .i64 r] w fun e' w' => (∃ o, e' = .returned (.bool o)) ∧ Below w.heap.size w w' := by
  have hn := h.small
  have hl1 : decide ((r : Int) < 0) = false := by simp
  have hl2 : decide (16 < (r : Int)) = false := by simp; omega
  have Hb := Lib.hid hb
  clear hb
  go_enter Try.func14, Try.ntmps14
  go_wp2_with fail
  refine (Bounded_is k b e p c s st sp md 1099511627776 false Hb.out _ (h.keep (below_alloc _ _)) (by omega) (by omega)).mono ?_
  rintro e w' ⟨rfl, hb1⟩
  have A := (At7.new w _ k b e (.slice p s.length c) st sp md 26 rfl).keep hb1
  have hA0 := A.c0
  have hA1 := A.c1
  have hA2 := A.c2
  have hA3 := A.c3
  have hA4 := A.c4
  have hA5 := A.c5
  have hA6 := A.c6
  have hb := below_1 hb1
  clear hb1
  go_wp2_with fail
  all_goals
    go_ret
    exact ⟨⟨_, rfl⟩, hb⟩

set_option maxHeartbeats 1000000 in
theorem RAny_minus (k b e : Int) (p : Option Addr) (c : Nat) (s : List Int) (st sp md : Int) (r : Nat) (w : World) (h : Ints w p s) (hr : r ≤ 16) (hb : bndB 1099511627776 b e s st sp md = true) (hm : b < 0) :
    Calls Try.prog 14 #[.agg #[.int .i64 k, .int .i64 b, .int .i64 e, .slice p s.length c, .int .i64 st, .int .i64 sp, .int .i64 md], .int .i64 r] w fun e' w' => (∃ o, e' = .returned (.bool o)) ∧ Below w.heap.size w w' := by
  have hn := h.small
  have hl1 : decide ((r : Int) < 0) = false := by simp
  have hl2 : decide (16 < (r : Int)) = false := by simp; omega
  have hm0 : decide (b < 0) = true := by simpa using hm
  have Hb := Lib.hid hb
  clear hb hm
  go_enter Try.func14, Try.ntmps14
  go_wp2_with fail
  refine (Bounded_is k b e p c s st sp md 1099511627776 true Hb.out _ (h.keep (below_alloc _ _)) (by omega) (by omega)).mono ?_
  rintro e w' ⟨rfl, hb1⟩
  have A := (At7.new w _ k b e (.slice p s.length c) st sp md 26 rfl).keep hb1
  have hA0 := A.c0
  have hA1 := A.c1
  have hA2 := A.c2
  have hA3 := A.c3
  have hA4 := A.c4
  have hA5 := A.c5
  have hA6 := A.c6
  have hb := below_1 hb1
  clear hb1
  go_wp2_with fail
  all_goals
    go_ret
    exact ⟨⟨_, rfl⟩, hb⟩

set_option maxHeartbeats 1000000 in
theorem RAny_1 (k b e : Int) (p : Option Addr) (c : Nat) (s : List Int) (st sp md : Int) (r : Nat) (w : World) (h : Ints w p s) (hr : r ≤ 16) (hb : bndB 1099511627776 b e s st sp md = true) (hm : ¬ b < 0) (hk : k = 1) :
    Calls Try.prog 14 #[.agg #[.int .i64 k, .int .i64 b, .int .i64 e, .slice p s.length c, .int .i64 st, .int .i64 sp, .int .i64 md], .int .i64 r] w fun e' w' => (∃ o, e' = .returned (.bool o)) ∧ Below w.heap.size w w' := by
  have hn := h.small
  have hl1 : decide ((r : Int) < 0) = false := by simp
  have hl2 : decide (16 < (r : Int)) = false := by simp; omega
  subst hk
  have hm0 : decide (b < 0) = false := by simpa using hm
  have Hb := Lib.hid hb
  clear hb hm
  go_enter Try.func14, Try.ntmps14
  go_wp2_with fail
  refine (Bounded_is 1 b e p c s st sp md 1099511627776 true Hb.out _ (h.keep (below_alloc _ _)) (by omega) (by omega)).mono ?_
  rintro e w' ⟨rfl, hb1⟩
  have A := (At7.new w _ 1 b e (.slice p s.length c) st sp md 26 rfl).keep hb1
  have hA0 := A.c0
  have hA1 := A.c1
  have hA2 := A.c2
  have hA3 := A.c3
  have hA4 := A.c4
  have hA5 := A.c5
  have hA6 := A.c6
  have hb := below_1 hb1
  clear hb1
  go_wp2_with fail
  all_goals
    go_ret
    exact ⟨⟨_, rfl⟩, hb⟩

set_option maxHeartbeats 1000000 in
theorem RAny_2 (k b e : Int) (p : Option Addr) (c : Nat) (s : List Int) (st sp md : Int) (r : Nat) (w : World) (h : Ints w p s) (hr : r ≤ 16) (hb : bndB 1099511627776 b e s st sp md = true) (hm : ¬ b < 0) (hk : k = 2) :
    Calls Try.prog 14 #[.agg #[.int .i64 k, .int .i64 b, .int .i64 e, .slice p s.length c, .int .i64 st, .int .i64 sp, .int .i64 md], .int .i64 r] w fun e' w' => (∃ o, e' = .returned (.bool o)) ∧ Below w.heap.size w w' := by
  have hn := h.small
  have hl1 : decide ((r : Int) < 0) = false := by simp
  have hl2 : decide (16 < (r : Int)) = false := by simp; omega
  subst hk
  have hm0 : decide (b < 0) = false := by simpa using hm
  have Hb := Lib.hid hb
  clear hb hm
  go_enter Try.func14, Try.ntmps14
  go_wp2_with fail
  refine (Bounded_is 2 b e p c s st sp md 1099511627776 true Hb.out _ (h.keep (below_alloc _ _)) (by omega) (by omega)).mono ?_
  rintro e w' ⟨rfl, hb1⟩
  have A := (At7.new w _ 2 b e (.slice p s.length c) st sp md 26 rfl).keep hb1
  have hA0 := A.c0
  have hA1 := A.c1
  have hA2 := A.c2
  have hA3 := A.c3
  have hA4 := A.c4
  have hA5 := A.c5
  have hA6 := A.c6
  have hb := below_1 hb1
  clear hb1
  go_wp2_with fail
  all_goals
    go_ret
    exact ⟨⟨_, rfl⟩, hb⟩

set_option maxHeartbeats 1000000 in
theorem RAny_3 (k b e : Int) (p : Option Addr) (c : Nat) (s : List Int) (st sp md : Int) (r : Nat) (w : World) (h : Ints w p s) (hr : r ≤ 16) (hb : bndB 1099511627776 b e s st sp md = true) (hm : ¬ b < 0) (hk : k = 3) :
    Calls Try.prog 14 #[.agg #[.int .i64 k, .int .i64 b, .int .i64 e, .slice p s.length c, .int .i64 st, .int .i64 sp, .int .i64 md], .int .i64 r] w fun e' w' => (∃ o, e' = .returned (.bool o)) ∧ Below w.heap.size w w' := by
  have hn := h.small
  have hl1 : decide ((r : Int) < 0) = false := by simp
  have hl2 : decide (16 < (r : Int)) = false := by simp; omega
  subst hk
  have hm0 : decide (b < 0) = false := by simpa using hm
  have Hb := Lib.hid hb
  clear hb hm
  go_enter Try.func14, Try.ntmps14
  go_wp2_with fail
  refine (Bounded_is 3 b e p c s st sp md 1099511627776 true Hb.out _ (h.keep (below_alloc _ _)) (by omega) (by omega)).mono ?_
  rintro e w' ⟨rfl, hb1⟩
  have A := (At7.new w _ 3 b e (.slice p s.length c) st sp md 26 rfl).keep hb1
  have hA0 := A.c0
  have hA1 := A.c1
  have hA2 := A.c2
  have hA3 := A.c3
  have hA4 := A.c4
  have hA5 := A.c5
  have hA6 := A.c6
  have hb := below_1 hb1
  clear hb1
  go_wp2_with fail
  all_goals
    go_ret
    exact ⟨⟨_, rfl⟩, hb⟩

set_option maxHeartbeats 1000000 in
theorem RAny_other (k b e : Int) (p : Option Addr) (c : Nat) (s : List Int) (st sp md : Int) (r : Nat) (w : World) (h : Ints w p s) (hr : r ≤ 16) (hb : bndB 1099511627776 b e s st sp md = true) (hm : ¬ b < 0) (h1 : k ≠ 1) (h2 : k ≠ 2) (h3 : k ≠ 3) :
    Calls Try.prog 14 #[.agg #[.int .i64 k, .int .i64 b, .int .i64 e, .slice p s.length c, .int .i64 st, .int .i64 sp, .int .i64 md], .int .i64 r] w fun e' w' => (∃ o, e' = .returned (.bool o)) ∧ Below w.heap.size w w' := by
  have hn := h.small
  have hl1 : decide ((r : Int) < 0) = false := by simp
  have hl2 : decide (16 < (r : Int)) = false := by simp; omega
  have hm0 : decide (b < 0) = false := by simpa using hm
  have hk1 : (k == 1) = false := by simp [h1]
  have hk2 : (k == 2) = false := by simp [h2]
  have hk3 : (k == 3) = false := by simp [h3]
  clear h1 h2 h3
  have Hb := Lib.hid hb
  clear hb hm
  go_enter Try.func14, Try.ntmps14
  go_wp2_with fail
  refine (Bounded_is k b e p c s st sp md 1099511627776 true Hb.out _ (h.keep (below_alloc _ _)) (by omega) (by omega)).mono ?_
  rintro e w' ⟨rfl, hb1⟩
  have A := (At7.new w _ k b e (.slice p s.length c) st sp md 26 rfl).keep hb1
  have hA0 := A.c0
  have hA1 := A.c1
  have hA2 := A.c2
  have hA3 := A.c3
  have hA4 := A.c4
  have hA5 := A.c5
  have hA6 := A.c6
  have hb := below_1 hb1
  clear hb1
  go_wp2_with fail
  all_goals
    go_ret
    exact ⟨⟨_, rfl⟩, hb⟩

theorem RAny_any (k b e : Int) (p : Option Addr) (c : Nat) (s : List Int) (st sp md : Int) (r : Nat) (w : World) (h : Ints w p s) (hr : r ≤ 16) :
    Calls Try.prog 14 #[.agg #[.int .i64 k, .int .i64 b, .int .i64 e, .slice p s.length c, .int .i64 st, .int .i64 sp, .int .i64 md], .int .i64 r] w fun e' w' => (∃ o, e' = .returned (.bool o)) ∧ Below w.heap.size w w' := by
  cases hb : bndB 1099511627776 b e s st sp md with
  | false => exact RAny_far k b e p c s st sp md r w h hr hb
  | true =>
    by_cases hm : b < 0
    · exact RAny_minus k b e p c s st sp md r w h hr hb hm
    · by_cases h1 : k = 1
      · exact RAny_1 k b e p c s st sp md r w h hr hb hm h1
      · by_cases h2 : k = 2
        · exact RAny_2 k b e p c s st sp md r w h hr hb hm h2
        · by_cases h3 : k = 3
          · exact RAny_3 k b e p c s st sp md r w h hr hb hm h3
          · exact RAny_other k b e p c s st sp md r w h hr hb hm h1 h2 h3

end Go.Proofs.Ytgbeokfpegdgdaa
