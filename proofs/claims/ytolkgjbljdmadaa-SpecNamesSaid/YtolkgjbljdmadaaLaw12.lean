/- The laws SpecAxes and SpecShapes, walked: they return true at all arguments and write nothing that was there. No condition. -/
import Derived.Test.YtolkgjbljdmadaaSpec16
import Derived.IntWalk
namespace Go.Proofs.Ytolkgjbljdmadaa
open Go.RowKit Go.Shelf
set_option linter.unusedVariables false
set_option linter.unusedSimpArgs false

theorem eqS_self (xs : List Int) : eqS xs xs = true := by simp [eqS]

set_option maxRecDepth 100000 in
set_option maxHeartbeats 2000000 in
theorem SpecAxes_law (p : Option Addr) (c : Nat) (vs : List Int) (sc : Bool) (r : Int) (w : World) (h : Ints w p vs) (hr : 0 ≤ r ∧ r ≤ 255) :
    Calls Try.prog 3 #[.agg #[.slice p vs.length c, .bool sc], .int .u8 r] w fun e w' => e = .returned (.bool true) ∧ Below w.heap.size w w' := by
  have hsm := h.small
  have A := Sp2.new w _ (.slice p vs.length c) sc 24 rfl
  by_cases hl : 300 < vs.length
  · have hd : decide (300 < (vs.length : Int)) = true := decide_eq_true (by omega)
    go_enter Try.func3, Try.ntmps3
    go_wp2_with fail
    refine (awake12 _).mono ?_
    rintro e1 w1 ⟨rfl, hb1⟩
    have A := A.keep hb1
    have hb := below_1 hb1
    clear hb1
    have q0 := A.c0
    go_wp2_with fail
    clear q0
    refine (awake12 _).mono ?_
    rintro e2 w2 ⟨rfl, hb1⟩
    have hb := below_t hb hb1
    clear hb1
    go_wp2_with fail
    go_ret
    exact ⟨rfl, hb⟩
  · have hd : decide (300 < (vs.length : Int)) = false := decide_eq_false (by omega)
    obtain ⟨xs, z, h1, h2⟩ := perm_pair vs sc r (by omega)
    have H1 := Lib.hid h1
    have H2 := Lib.hid h2
    have hw : IntKind.i64.wrap r = r := IntWalk.i64_in _ (by omega)
    have hzz : (z == z) = true := by simp
    clear h1 h2
    go_enter Try.func3, Try.ntmps3
    go_wp2_with fail
    refine (awake12 _).mono ?_
    rintro e1 w1 ⟨rfl, hb1⟩
    have A := A.keep hb1
    have hi := h.keep (below_1 hb1)
    have hb := below_1 hb1
    clear hb1
    have q0 := A.c0
    have q1 := A.c1
    go_wp2_with fail
    clear q0 q1
    refine (H1.out _ _ _ hi).mono ?_
    rintro e2 w2 ⟨⟨qa, ca, rfl, ia⟩, hb1⟩
    have A := A.keep hb1
    have hi := hi.keep hb1
    have hb := below_t hb hb1
    clear hb1
    have q0 := A.c0
    have q1 := A.c1
    go_wp2_with fail
    clear q0 q1
    refine (H2.out _ _ _ hi).mono ?_
    rintro e3 w3 ⟨⟨qb, cb, rfl, ib⟩, hb1⟩
    have ia := ia.keep hb1
    have hb := below_t hb hb1
    clear hb1
    go_wp2_with fail
    refine (RefEqual_is xs xs true (eqS_self xs) _ _ _ _ _ ia ib).mono ?_
    rintro e4 w4 ⟨rfl, hb1⟩
    have hb := below_t hb hb1
    clear hb1
    go_wp2_with fail
    go_ret
    exact ⟨rfl, hb⟩

set_option maxRecDepth 100000 in
set_option maxHeartbeats 2000000 in
theorem SpecShapes_law (p : Option Addr) (c : Nat) (vs : List Int) (sc : Bool) (w : World) (h : Ints w p vs) :
    Calls Try.prog 4 #[.agg #[.slice p vs.length c, .bool sc]] w fun e w' => e = .returned (.bool true) ∧ Below w.heap.size w w' := by
  have hsm := h.small
  have A := Sp2.new w _ (.slice p vs.length c) sc 24 rfl
  by_cases hl : 300 < vs.length
  · have hd : decide (300 < (vs.length : Int)) = true := decide_eq_true (by omega)
    go_enter Try.func4, Try.ntmps4
    go_wp2_with fail
    refine (awake12 _).mono ?_
    rintro e1 w1 ⟨rfl, hb1⟩
    have A := A.keep hb1
    have hb := below_1 hb1
    clear hb1
    have q0 := A.c0
    go_wp2_with fail
    clear q0
    refine (awake12 _).mono ?_
    rintro e2 w2 ⟨rfl, hb1⟩
    have hb := below_t hb hb1
    clear hb1
    go_wp2_with fail
    go_ret
    exact ⟨rfl, hb⟩
  · have hd : decide (300 < (vs.length : Int)) = false := decide_eq_false (by omega)
    obtain ⟨xs, z, h0, h1, h2⟩ := dims_pair vs sc (by omega)
    have H0 := Lib.hid h0
    have H1 := Lib.hid h1
    have H2 := Lib.hid h2
    have hzz : (z == z) = true := by simp
    clear h0 h1 h2
    go_enter Try.func4, Try.ntmps4
    go_wp2_with fail
    refine (awake12 _).mono ?_
    rintro e1 w1 ⟨rfl, hb1⟩
    have A := A.keep hb1
    have hi := h.keep (below_1 hb1)
    have hb := below_1 hb1
    clear hb1
    have q0 := A.c0
    have q1 := A.c1
    go_wp2_with fail
    clear q0 q1
    refine (H1.out _ _ _ hi).mono ?_
    rintro e2 w2 ⟨⟨qa, ca, rfl, ia⟩, hb1⟩
    have A := A.keep hb1
    have hi := hi.keep hb1
    have hb := below_t hb hb1
    clear hb1
    have q0 := A.c0
    have q1 := A.c1
    go_wp2_with fail
    clear q0 q1
    refine (H2.out _ _ _ hi).mono ?_
    rintro e3 w3 ⟨⟨qb, cb, rfl, ib⟩, hb1⟩
    have ia := ia.keep hb1
    have hb := below_t hb hb1
    clear hb1
    by_cases hz : z = 0
    · subst hz
      have H3 := Lib.hid (H0.out rfl)
      clear H0
      go_wp2_with fail
      refine (RefEqual_is xs xs true (eqS_self xs) _ _ _ _ _ ia ib).mono ?_
      rintro e4 w4 ⟨rfl, hb1⟩
      have ia := ia.keep hb1
      have hb := below_t hb hb1
      clear hb1
      go_wp2_with fail
      refine (RefCheck_is xs 0 H3.out _ _ _ ia).mono ?_
      rintro e5 w5 ⟨rfl, rfl⟩
      go_wp2_with fail
      go_ret
      exact ⟨rfl, hb⟩
    · have hzb : (z != 0) = true := by simp [hz]
      clear hz
      go_wp2_with fail
      refine (RefEqual_is xs xs true (eqS_self xs) _ _ _ _ _ ia ib).mono ?_
      rintro e4 w4 ⟨rfl, hb1⟩
      have hb := below_t hb hb1
      clear hb1
      go_wp2_with fail
      go_ret
      exact ⟨rfl, hb⟩
end Go.Proofs.Ytolkgjbljdmadaa
