/- The program's and the reference's Permutation have one answer, and so have the two Dimensions: joined out of the cases. No condition beyond what each says. -/
import Derived.Test.YtolkgjbljdmadaaSpec13
namespace Go.Proofs.Ytolkgjbljdmadaa
open Go.RowKit Go.Shelf
set_option linter.unusedVariables false

/-- a list of numbers and an error -/
def RowErr (xs : List Int) (z : Int) (w : World) (e : Ending) (w' : World) : Prop :=
  (∃ q c, e = .returned (.tuple #[.slice q xs.length c, .int .i64 z]) ∧ Ints w' q xs) ∧ Below w.heap.size w w'

theorem rowErr_none {z : Int} {w w' : World} {e : Ending} (h : e = .returned (.tuple #[.slice none 0 0, .int .i64 z]) ∧ Below w.heap.size w w') : RowErr [] z w e w' :=
  ⟨⟨none, 0, h.1, Ints.nil _⟩, h.2⟩

theorem perm_pair (vs : List Int) (sc : Bool) (r : Int) (hl : vs.length ≤ 1000000) :
    ∃ (xs : List Int) (z : Int),
      (∀ p c w, Ints w p vs → Calls Try.prog 12 #[.agg #[.slice p vs.length c, .bool sc], .int .i64 r] w (RowErr xs z w)) ∧
      (∀ p c w, Ints w p vs → Calls Try.prog 13 #[.agg #[.slice p vs.length c, .bool sc], .int .i64 r] w (RowErr xs z w)) := by
  by_cases hr : (vs.length : Int) = r
  · subst hr
    by_cases hall : ∀ x ∈ vs, 0 ≤ x ∧ x < (vs.length : Int)
    · rcases perm_cases vs (fun x hx => (hall x hx).1) with ⟨hd, hf⟩ | ⟨hvp, hd, g, hg, hgn, hgb⟩
      · exact ⟨vs, 0, fun p c w h => Perm_yes p c vs sc w h hl hall hd, fun p c w h => RPerm_yes p c vs sc w h hl hall hf⟩
      · exact ⟨[], 6, fun p c w h => (Perm_gap p c vs sc w h hl hall hvp hd).mono fun _ _ h => rowErr_none h, fun p c w h => (RPerm_gap p c vs sc w h hl hall g hg hgn hgb).mono fun _ _ h => rowErr_none h⟩
    · obtain ⟨x, hx⟩ := Classical.not_forall.1 hall
      obtain ⟨hx, hbad⟩ := Classical.not_imp.1 hx
      obtain ⟨m, hm, h1, h2⟩ := first_any (fun x => decide (x < 0 ∨ (vs.length : Int) ≤ x)) (xs := vs) (List.any_eq_true.2 ⟨x, hx, by simp; omega⟩)
      have h1' : nth vs m < 0 ∨ (vs.length : Int) ≤ nth vs m := of_decide_eq_true h1
      have h2' : ∀ j, j < m → 0 ≤ nth vs j ∧ nth vs j < (vs.length : Int) := fun j hj => by
        have := of_decide_eq_false (h2 j hj)
        omega
      exact ⟨[], 6, fun p c w h => (Perm_out p c vs sc w h hl m hm (fun j hj => by rw [axis_in (h2' j hj)]) (by rw [axisS_no h1'])).mono fun _ _ h => rowErr_none h, fun p c w h => (RPerm_out p c vs sc w h hl m hm h1' h2').mono fun _ _ h => rowErr_none h⟩
  · exact ⟨[], 5, fun p c w h => (Perm_len p c vs sc r w hr).mono fun _ _ h => rowErr_none h, fun p c w h => (RPerm_len p c vs sc r w hr).mono fun _ _ h => rowErr_none h⟩

theorem dims_pair (vs : List Int) (sc : Bool) (hl : vs.length ≤ 1000000) :
    ∃ (xs : List Int) (z : Int), (z = 0 → shapeS xs = 0) ∧
      (∀ p c w, Ints w p vs → Calls Try.prog 15 #[.agg #[.slice p vs.length c, .bool sc]] w (RowErr xs z w)) ∧
      (∀ p c w, Ints w p vs → Calls Try.prog 16 #[.agg #[.slice p vs.length c, .bool sc]] w (RowErr xs z w)) := by
  cases hn : vs.any neg with
  | true => exact ⟨[], 6, by decide, fun p c w h => (Dims_neg p c vs sc w h hn).mono fun _ _ h => rowErr_none h, fun p c w h => (RDims_neg p c vs sc w h hl hn).mono fun _ _ h => rowErr_none h⟩
  | false =>
    by_cases h7 : (16 < vs.length) ∨ vs.any big = true
    · have hE : ∃ n, n < vs.length ∧ (16 ≤ n ∨ 65536 < nth vs n) := by
        rcases h7 with h7 | h7
        · exact ⟨16, h7, .inl (Nat.le_refl _)⟩
        · obtain ⟨m, hm, h1, -⟩ := first_any big h7
          exact ⟨m, hm, .inr (by simpa [big] using h1)⟩
      obtain ⟨n, hn1, hn2⟩ := hE
      obtain ⟨m, hm1, hm2, hm3⟩ := first_of (fun j => 16 ≤ j ∨ 65536 < nth vs j) n hn2
      refine ⟨[], 7, by decide, fun p c w h => ?_, fun p c w h => (RDims_seven p c vs sc w h hl hn m (by omega) hm2 fun j hj => ?_).mono fun _ _ h => rowErr_none h⟩
      · cases hb : vs.any big with
        | true => exact (Dims_big p c vs sc w h hl hn hb).mono fun _ _ h => rowErr_none h
        | false =>
          have h16 : 16 < vs.length := by
            rcases h7 with h7 | h7
            · exact h7
            · rw [hb] at h7; cases h7
          exact (Dims_err p c vs sc w h hl hn hb 7 (shapeS_long hn h16) (by decide)).mono fun _ _ h => rowErr_none h
      · have := hm3 j hj
        exact ⟨by omega, by omega⟩
    · have h16 : vs.length ≤ 16 := by omega
      have hb : vs.any big = false := by
        cases hb : vs.any big with
        | false => rfl
        | true => exact absurd (.inr hb) h7
      have hbig : ∀ x ∈ vs, ¬ 65536 < x := fun x hx => by
        have := any_no hb x hx
        simpa [big] using this
      by_cases hz : shapeS vs = 0
      · refine ⟨vs, 0, fun _ => hz, fun p c w h => Dims_yes p c vs sc w h hl hz, fun p c w h => (RDims_end p c vs sc w h hl hn h16 hbig 0 hz).mono fun e w' hh => ?_⟩
        rw [if_pos rfl] at hh
        exact hh
      · refine ⟨[], shapeS vs, fun h => absurd h hz, fun p c w h => (Dims_err p c vs sc w h hl hn hb _ rfl hz).mono fun _ _ h => rowErr_none h, fun p c w h => (RDims_end p c vs sc w h hl hn h16 hbig _ rfl).mono fun e w' hh => ?_⟩
        rw [if_neg hz] at hh
        exact rowErr_none hh
end Go.Proofs.Ytolkgjbljdmadaa
