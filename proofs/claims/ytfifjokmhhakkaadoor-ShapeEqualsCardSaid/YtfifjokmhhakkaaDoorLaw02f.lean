/- ShapeEquals, walked. No condition. -/
import Derived.Test.YtfifjokmhhakkaaDoorLaw02e
namespace Go.Proofs.YtfifjokmhhakkaaDoor
open Go.RowKit Go.Shelf
set_option linter.unusedVariables false
set_option linter.unusedSimpArgs false

theorem text_same {xs ys : List Int} : ((joinB xs).toList == (joinB ys).toList) = eqS xs ys := by
  unfold eqS
  by_cases h : xs = ys
  · subst h
    simp
  · rw [decide_eq_false h]
    cases hx : ((joinB xs).toList == (joinB ys).toList) with
    | false => rfl
    | true =>
      rw [beq_iff_eq, ByteArray.toList_eq, ByteArray.toList_eq] at hx
      exact absurd (join_inj (by simpa [joinB] using hx)) h
theorem ShapeEqual_b (xs ys : List Int) (r : Bool) (hr : eqS xs ys = r) (a b : Option Addr) (c d : Nat) (w : World) (h : Ints w a xs) (h' : Ints w b ys) :
    Calls Tryd.prog 13 #[.slice a xs.length c, .slice b ys.length d] w fun e w' => e = .returned (.bool r) ∧ Below w.heap.size w w' := by
  subst hr
  exact (ShapeEqual_any a b c d xs ys w h h').mono fun e w' ⟨he, n, hw⟩ => ⟨he, hw ▸ below_drewN _ _ _⟩

set_option maxRecDepth 100000 in
set_option maxHeartbeats 4000000 in
theorem ShapeEquals_law (p : Option Addr) (c : Nat) (s : List Int) (q : Option Addr) (f : Nat) (t : List Int) (w : World) (h : Ints w p s) (h' : Ints w q t) (hbd : Bds p s.length c) (hbd' : Bds q t.length f) (hP : Pow w) :
    Calls Tryd.prog 4 #[.slice p s.length c, .slice q t.length f] w fun e w' => e = .returned (.bool true) ∧ Below w.heap.size w w' := by
  have hsm := h.small
  have hsm' := h'.small
  obtain ⟨r, hr⟩ : ∃ z, eqS s t = z := ⟨_, rfl⟩
  have htx := text_same (xs := s) (ys := t)
  rw [hr] at htx
  obtain ⟨x, hx⟩ : ∃ z, joinB s = z := ⟨_, rfl⟩
  obtain ⟨y, hy⟩ : ∃ z, joinB t = z := ⟨_, rfl⟩
  rw [hx, hy] at htx
  have HR := Lib.hid hr
  have HX := Lib.hid hx
  have HY := Lib.hid hy
  clear hr hx hy
  go_enter Tryd.func4, Tryd.ntmps4
  go_wp2_with fail
  refine (awake02 w).mono ?_
  rintro e1 w1 ⟨rfl, hb⟩
  have h1 := h.keep hb
  have h1' := h'.keep hb
  have hP := hP.keep hb
  by_cases k1 : (300 : Int) < (s.length : Int)
  · have d1 : decide ((300 : Int) < (s.length : Int)) = true := decide_eq_true k1
    clear hP
    go_wp2_with fail
    refine (awake02 w1).mono ?_
    rintro e2 w2 ⟨rfl, hb2⟩
    go_wp2_with fail
    go_ret
    exact ⟨rfl, below_t hb hb2⟩
  have d1 : decide ((300 : Int) < (s.length : Int)) = false := decide_eq_false k1
  by_cases k2 : (300 : Int) < (t.length : Int)
  · have d2 : decide ((300 : Int) < (t.length : Int)) = true := decide_eq_true k2
    clear hP
    go_wp2_with fail
    refine (awake02 w1).mono ?_
    rintro e2 w2 ⟨rfl, hb2⟩
    go_wp2_with fail
    go_ret
    exact ⟨rfl, below_t hb hb2⟩
  have d2 : decide ((300 : Int) < (t.length : Int)) = false := decide_eq_false k2
  have hl3 : Hid (s.length ≤ 300) := by unfold Hid; omega
  have hl4 : Hid (t.length ≤ 300) := by unfold Hid; omega
  have HP := Lib.hid hP
  clear hP
  go_wp2_with fail
  refine (ShapeEqual_b s t r HR.out _ _ _ _ _ h1 h1').mono ?_
  rintro e2 w2 ⟨rfl, hb2⟩
  have h2 := h1.keep hb2
  have h2' := h1'.keep hb2
  have hP := HP.out.keep hb2
  have hb := below_t hb hb2
  have HP := Lib.hid hP
  clear hP
  go_wp2_with fail
  refine (RefEqual_is s t r HR.out _ _ _ _ _ h2 h2').mono ?_
  rintro e3 w3 ⟨rfl, hb3⟩
  have h3 := h2.keep hb3
  have h3' := h2'.keep hb3
  have hP := HP.out.keep hb3
  have hb := below_t hb hb3
  have HP := Lib.hid hP
  clear hP
  go_wp2_with fail
  refine (Text_is s x HX.out s.length rfl _ _ hl3.out _ h3 HP.out).mono ?_
  rintro e4 w4 ⟨rfl, hb4⟩
  have h4 := h3.keep hb4
  have h4' := h3'.keep hb4
  have hP := HP.out.keep hb4
  have hb := below_t hb hb4
  have HP := Lib.hid hP
  clear hP
  go_wp2_with fail
  refine (Text_is t y HY.out t.length rfl _ _ hl4.out _ h4' HP.out).mono ?_
  rintro e5 w5 ⟨rfl, hb5⟩
  have h5 := h4.keep hb5
  have h5' := h4'.keep hb5
  have hb := below_t hb hb5
  go_wp2_with fail
  refine (RefEqual_is s t r HR.out _ _ _ _ _ h5 h5').mono ?_
  rintro e6 w6 ⟨rfl, hb6⟩
  have hb := below_t hb hb6
  go_wp2_with fail
  go_ret
  exact ⟨rfl, hb⟩
end Go.Proofs.YtfifjokmhhakkaaDoor
