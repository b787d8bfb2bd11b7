/- Two alike pieces: the reference's Alike of a piece and itself. No condition beyond what each says. -/
import Derived.Test.YtgbeokfpegdgdaaMg5
namespace Go.Proofs.Ytgbeokfpegdgdaa
open Go.RowKit Go.Shelf
set_option linter.unusedVariables false
set_option linter.unusedSimpArgs false

/-- what a piece is that is right, with cells -/
structure Full (x : PV) : Prop where
  right : RightX x.lo x.hi
  full : FullX x.lo x.hi
  s : x.s.length ≤ 16

def AlikeRet (x : PV) (w : World) (e : Ending) (w' : World) : Prop := (∃ o, e = .returned (.bool o) ∧ (o = true → Full x)) ∧ Below w.heap.size w w'

set_option maxRecDepth 100000 in
set_option maxHeartbeats 4000000 in
theorem Alike_any (x : PV) (w : World) (hx : PVI w x) :
    Calls Try.prog 5 #[.agg #[.slice x.p x.lo.length x.c, .slice x.q x.hi.length x.f, .int .i64 x.k, .int .i64 x.b, .int .i64 x.e, .slice x.g x.s.length x.d, .int .i64 x.st, .int .i64 x.sp, .int .i64 x.md], .agg #[.slice x.p x.lo.length x.c, .slice x.q x.hi.length x.f, .int .i64 x.k, .int .i64 x.b, .int .i64 x.e, .slice x.g x.s.length x.d, .int .i64 x.st, .int .i64 x.sp, .int .i64 x.md]] w (AlikeRet x w) := by
  have hn := hx.lo.small
  have b2 := below_t (below_alloc w (.cells #[.slice x.p x.lo.length x.c, .slice x.q x.hi.length x.f, .int .i64 x.k, .int .i64 x.b, .int .i64 x.e, .slice x.g x.s.length x.d, .int .i64 x.st, .int .i64 x.sp, .int .i64 x.md] 28)) (below_alloc _ (.cells #[.slice x.p x.lo.length x.c, .slice x.q x.hi.length x.f, .int .i64 x.k, .int .i64 x.b, .int .i64 x.e, .slice x.g x.s.length x.d, .int .i64 x.st, .int .i64 x.sp, .int .i64 x.md] 28))
  have A0 := (At9.new w _ x 28 rfl).keep (below_alloc _ (.cells #[.slice x.p x.lo.length x.c, .slice x.q x.hi.length x.f, .int .i64 x.k, .int .i64 x.b, .int .i64 x.e, .slice x.g x.s.length x.d, .int .i64 x.st, .int .i64 x.sp, .int .i64 x.md] 28))
  have B0 := At9.new (w.alloc (.cells #[.slice x.p x.lo.length x.c, .slice x.q x.hi.length x.f, .int .i64 x.k, .int .i64 x.b, .int .i64 x.e, .slice x.g x.s.length x.d, .int .i64 x.st, .int .i64 x.sp, .int .i64 x.md] 28)) (w.heap.size + 1) x 28 (by simp)
  have hx2 := hx.keep b2
  cases hr : rightX x.lo x.hi with
  | false =>
    have HR := Lib.hid hr
    clear hr A0 B0
    go_enter Try.func5, Try.ntmps5
    go_wp2_with fail
    refine (RefRight_is _ _ _ _ x.lo x.hi false HR.out _ hx2.lo hx2.hi).mono ?_
    rintro e1 w1 ⟨rfl, hb1⟩
    have hb := below_t b2 hb1
    go_wp2_with fail
    go_ret
    exact ⟨⟨false, rfl, by simp⟩, hb⟩
  | true =>
    have HX : Hid (RightX x.lo x.hi) := of_decide_eq_true (p := RightX x.lo x.hi) hr
    have HR := Lib.hid hr
    have hnn : ((x.lo.length : Int) != (x.lo.length : Int)) = false := by simp
    clear hr
    go_enter Try.func5, Try.ntmps5
    go_wp2_with fail
    refine (RefRight_is _ _ _ _ x.lo x.hi true HR.out _ hx2.lo hx2.hi).mono ?_
    rintro e1 w1 ⟨rfl, hb1⟩
    have A := A0.keep hb1
    have B := B0.keep hb1
    have hb := below_t b2 hb1
    have hx1 := hx2.keep hb1
    clear hb1 A0 B0 hx2 b2
    have hB0 := B.c0
    have hB1 := B.c1
    go_wp2_with fail
    refine (RefRight_is _ _ _ _ x.lo x.hi true HR.out _ hx1.lo hx1.hi).mono ?_
    rintro e2 w2 ⟨rfl, hb2⟩
    clear hB0
    clear hB1
    have A := A.keep hb2
    have B := B.keep hb2
    have hx1 := hx1.keep hb2
    have hb := below_t hb hb2
    clear hb2
    have hA0 := A.c0
    have hA1 := A.c1
    have hA2 := A.c2
    have hA3 := A.c3
    have hA4 := A.c4
    have hA5 := A.c5
    have hA6 := A.c6
    have hA7 := A.c7
    have hA8 := A.c8
    have hB0 := B.c0
    by_cases hs : 16 < x.s.length
    · go_wp2_with fail
      refine (RLong_any x.k x.b x.e x.g x.d x.s x.st x.sp x.md x.lo.length w2 hx1.s HX.out.2.1 hs).mono ?_
      rintro e3 w3 ⟨rfl, hb3⟩
      clear hA0
      clear hA1
      clear hA2
      clear hA3
      clear hA4
      clear hA5
      clear hA6
      clear hA7
      clear hA8
      have hb := below_t hb hb3
      clear hb3 hB0 A B
      go_wp2_with fail
      go_ret
      exact ⟨⟨false, rfl, by simp⟩, hb⟩
    · go_wp2_with fail
      refine (RAny_any x.k x.b x.e x.g x.d x.s x.st x.sp x.md x.lo.length w2 hx1.s HX.out.2.1).mono ?_
      rintro e3 w3 ⟨⟨o3, rfl⟩, hb3⟩
      clear hA0
      clear hA1
      clear hA2
      clear hA3
      clear hA4
      clear hA5
      clear hA6
      clear hA7
      clear hA8
      clear hB0
      have A := A.keep hb3
      have B := B.keep hb3
      have hx1 := hx1.keep hb3
      have hb := below_t hb hb3
      clear hb3
      cases o3 with
      | false =>
        clear A B
        go_wp2_with fail
        go_ret
        exact ⟨⟨false, rfl, by simp⟩, hb⟩
      | true =>
        have hB0 := B.c0
        have hB1 := B.c1
        have hB2 := B.c2
        have hB3 := B.c3
        have hB4 := B.c4
        have hB5 := B.c5
        have hB6 := B.c6
        have hB7 := B.c7
        have hB8 := B.c8
        go_wp2_with fail
        refine (RAny_any x.k x.b x.e x.g x.d x.s x.st x.sp x.md x.lo.length w3 hx1.s HX.out.2.1).mono ?_
        rintro e4 w4 ⟨⟨o4, rfl⟩, hb4⟩
        clear hB0
        clear hB1
        clear hB2
        clear hB3
        clear hB4
        clear hB5
        clear hB6
        clear hB7
        clear hB8
        have A := A.keep hb4
        have B := B.keep hb4
        have hx1 := hx1.keep hb4
        have hb := below_t hb hb4
        clear hb4
        cases o4 with
        | false =>
          clear A B
          go_wp2_with fail
          go_ret
          exact ⟨⟨false, rfl, by simp⟩, hb⟩
        | true =>
          have hA0 := A.c0
          have hA1 := A.c1
          have hB0 := B.c0
          have hB1 := B.c1
          have LH := Lib.hid HX.out.1
          clear A B
          go_wp2_with fail
          go_loopw [6] (fun i wr => ∃ k m : Nat, k ≤ x.lo.length ∧ i = .int .i64 k ∧ wr = w4.drewN m ∧ Hid (∀ j, j < k → nth x.lo j < nth x.hi j)) (fun i _ => x.lo.length - (intOf i).toNat)
          case atStart => exact ⟨0, 0, Nat.zero_le _, rfl, rfl, fun j hj => by omega⟩
          case round =>
            obtain ⟨k, m, hk, rfl, rfl, hI⟩ := hrel
            have hbd := fun n => below_t hb (below_drewN _ w4 n)
            by_cases hlt : k < x.lo.length
            · have hlt' : k < x.hi.length := by rw [← LH.out]; exact hlt
              obtain ⟨b1, o1, e1, -, hc⟩ := hx1.lo.at hlt
              obtain ⟨b2, o2, e2, -, hc'⟩ := hx1.hi.at hlt'
              rw [e1] at hA0 hB0
              rw [e2] at hA1 hB1
              have hi1 : (k : Int) < (x.lo.length : Int) := by omega
              have hi2 : (k : Int) < (x.hi.length : Int) := by omega
              by_cases hxx : nth x.lo k < nth x.hi k
              · have hxd : decide (nth x.hi k ≤ nth x.lo k) = false := by simp; omega
                have HN : Hid (∀ j, j < k + 1 → nth x.lo j < nth x.hi j) := fun j hj => by
                  by_cases hjk : j = k
                  · subst hjk
                    exact hxx
                  · exact hI.out j (by omega)
                clear hxx hbd
                go_wp2
                go_quiet (fail)
                go_wp2
                go_roundw
                case rel => exact ⟨k + 1, _, by omega, by go_num, rfl, HN⟩
                case measure => simp [intOf]; omega
              · have hxd : decide (nth x.hi k ≤ nth x.lo k) = true := by simp; omega
                clear hxx
                go_wp2
                go_quiet (fail)
                go_wp2
                go_ret
                exact ⟨⟨false, rfl, by simp⟩, by first | exact hbd _ | exact below_t (hbd _) (below_drewN _ _ _)⟩
            · have hi1 : ¬ (k : Int) < (x.lo.length : Int) := by omega
              have HN : Hid (Full x) := ⟨HX.out, fun j hj => hI.out j (by omega), by omega⟩
              go_wp2_with fail
              go_ret
              exact ⟨⟨true, rfl, fun _ => HN.out⟩, hbd _⟩
end Go.Proofs.Ytgbeokfpegdgdaa
