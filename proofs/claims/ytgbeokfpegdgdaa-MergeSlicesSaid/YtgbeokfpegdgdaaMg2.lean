/- The reference's accesses: Bounded, Right at any rank, Same; Same of the program. No condition beyond what each says. -/
import Derived.Test.YtgbeokfpegdgdaaMg0
import Derived.BigGuardPart
import Derived.BigRegion
namespace Go.Proofs.Ytgbeokfpegdgdaa
open Go.RowKit Go.Shelf
set_option linter.unusedVariables false
set_option linter.unusedSimpArgs false

/-- from -m to m -/
def nearB (m n : Int) : Bool := decide (-m ≤ n) && decide (n ≤ m)
theorem nearB_true {m n : Int} (h : nearB m n = true) : -m ≤ n ∧ n ≤ m := by
  unfold nearB at h
  rw [Bool.and_eq_true] at h
  exact ⟨of_decide_eq_true h.1, of_decide_eq_true h.2⟩

theorem near_any (n m : Int) (w : World) (h0 : 0 ≤ m) (h1 : m ≤ 4611686018427387904) :
    Calls Try.prog 24 #[.int .i64 n, .int .i64 m] w fun e w' => e = .returned (.bool (nearB m n)) ∧ w = w' := by
  by_cases h2 : -m ≤ n
  · have H : Hid (nearB m n = decide (n ≤ m)) := by simp [Hid, nearB, h2]
    have hd : decide (-m ≤ n) = true := by simpa using h2
    go_enter Try.func24, Try.ntmps24
    go_wp2
    go_ret
    exact ⟨ret_bool H.out.symm, rfl⟩
  · have H : Hid (nearB m n = false) := by simp [Hid, nearB, h2]
    have hd : decide (-m ≤ n) = false := by simpa using h2
    go_enter Try.func24, Try.ntmps24
    go_wp2
    go_ret
    exact ⟨ret_bool H.out.symm, rfl⟩
theorem near_is (n m : Int) (r : Bool) (hr : nearB m n = r) (w : World) (h0 : 0 ≤ m) (h1 : m ≤ 4611686018427387904) :
    Calls Try.prog 24 #[.int .i64 n, .int .i64 m] w fun e w' => e = .returned (.bool r) ∧ w = w' := hr ▸ near_any n m w h0 h1

/-- whether all numbers of an access are from -m to m -/
def bndB (m b e : Int) (s : List Int) (st sp md : Int) : Bool := s.all (nearB m) && (nearB m b && (nearB m e && (nearB m st && (nearB m sp && nearB m md))))

set_option maxHeartbeats 2000000 in
theorem Bounded_any (k b e : Int) (p : Option Addr) (c : Nat) (s : List Int) (st sp md : Int) (m : Int) (w : World) (h : Ints w p s) (h0 : 0 ≤ m) (h1 : m ≤ 4611686018427387904) :
    Calls Try.prog 22 #[.agg #[.int .i64 k, .int .i64 b, .int .i64 e, .slice p s.length c, .int .i64 st, .int .i64 sp, .int .i64 md], .int .i64 m] w fun e' w' => e' = .returned (.bool (bndB m b e s st sp md)) ∧ Below w.heap.size w w' := by
  have hn := h.small
  go_enter Try.func22, Try.ntmps22
  go_wp2
  go_loop [5] (fun i => ∃ j : Nat, j ≤ s.length ∧ i = .int .i64 j ∧ Hid ((s.take j).all (nearB m) = true)) (fun i => s.length - (intOf i).toNat)
  case atStart => exact ⟨0, Nat.zero_le _, rfl, by simp [Hid]⟩
  case round =>
    obtain ⟨j, hj, rfl, hI⟩ := hrel
    by_cases hlt : j < s.length
    · have h' := h.keep (below_alloc w (.cells #[.int .i64 k, .int .i64 b, .int .i64 e, .slice p s.length c, .int .i64 st, .int .i64 sp, .int .i64 md] 26))
      obtain ⟨b1, o1, rfl, -, hc⟩ := h'.at hlt
      have hi : (j : Int) < (s.length : Int) := by omega
      cases hx : nearB m (nth s j) with
      | true =>
        have Hi : Hid ((s.take (j + 1)).all (nearB m) = true) := by unfold Hid; rw [take_nth hlt, List.all_append, hI.out]; simp [hx]
        have Hx := Lib.hid hx
        clear hx
        go_wp2_with fail
        refine (near_is _ m true Hx.out _ h0 h1).mono ?_
        rintro e' w' ⟨rfl, rfl⟩
        go_wp2_with fail
        go_round
        case rel => exact ⟨j + 1, by omega, by go_num, Hi⟩
        case measure => simp [intOf]; omega
      | false =>
        have Hi : Hid (bndB m b e s st sp md = false) := by
          have : s.all (nearB m) = false := by
            rw [List.all_eq_false]
            exact ⟨nth s j, nth_mem hlt, by simp [hx]⟩
          simp [Hid, bndB, this]
        have Hx := Lib.hid hx
        clear hx
        go_wp2_with fail
        refine (near_is _ m false Hx.out _ h0 h1).mono ?_
        rintro e' w' ⟨rfl, rfl⟩
        go_wp2_with fail
        go_ret
        exact ⟨ret_bool Hi.out.symm, below_alloc _ _⟩
    · have Hall : Hid (s.all (nearB m) = true) := by
        have := hI.out
        rw [List.take_of_length_le (by omega)] at this
        exact this
      cases hb : nearB m b with
      | false =>
        have H : Hid (bndB m b e s st sp md = false) := by simp [Hid, bndB, Hall.out, hb]
        have Hb := Lib.hid hb
        clear hb
        go_wp2_with fail
        refine (near_is b m false Hb.out _ h0 h1).mono ?_
        rintro e' w' ⟨rfl, rfl⟩
        go_wp2_with fail
        go_ret
        exact ⟨ret_bool H.out.symm, below_alloc _ _⟩
      | true =>
        cases he : nearB m e with
        | false =>
          have H : Hid (bndB m b e s st sp md = false) := by simp [Hid, bndB, Hall.out, hb, he]
          have Hb := Lib.hid hb
          have He := Lib.hid he
          clear hb he
          go_wp2_with fail
          refine (near_is b m true Hb.out _ h0 h1).mono ?_
          rintro e' w' ⟨rfl, rfl⟩
          go_wp2_with fail
          refine (near_is e m false He.out _ h0 h1).mono ?_
          rintro e' w' ⟨rfl, rfl⟩
          go_wp2_with fail
          go_ret
          exact ⟨ret_bool H.out.symm, below_alloc _ _⟩
        | true =>
          cases hst : nearB m st with
          | false =>
            have H : Hid (bndB m b e s st sp md = false) := by simp [Hid, bndB, Hall.out, hb, he, hst]
            have Hb := Lib.hid hb
            have He := Lib.hid he
            have Hst := Lib.hid hst
            clear hb he hst
            go_wp2_with fail
            refine (near_is b m true Hb.out _ h0 h1).mono ?_
            rintro e' w' ⟨rfl, rfl⟩
            go_wp2_with fail
            refine (near_is e m true He.out _ h0 h1).mono ?_
            rintro e' w' ⟨rfl, rfl⟩
            go_wp2_with fail
            refine (near_is st m false Hst.out _ h0 h1).mono ?_
            rintro e' w' ⟨rfl, rfl⟩
            go_wp2_with fail
            go_ret
            exact ⟨ret_bool H.out.symm, below_alloc _ _⟩
          | true =>
            cases hsp : nearB m sp with
            | false =>
              have H : Hid (bndB m b e s st sp md = false) := by simp [Hid, bndB, Hall.out, hb, he, hst, hsp]
              have Hb := Lib.hid hb
              have He := Lib.hid he
              have Hst := Lib.hid hst
              have Hsp := Lib.hid hsp
              clear hb he hst hsp
              go_wp2_with fail
              refine (near_is b m true Hb.out _ h0 h1).mono ?_
              rintro e' w' ⟨rfl, rfl⟩
              go_wp2_with fail
              refine (near_is e m true He.out _ h0 h1).mono ?_
              rintro e' w' ⟨rfl, rfl⟩
              go_wp2_with fail
              refine (near_is st m true Hst.out _ h0 h1).mono ?_
              rintro e' w' ⟨rfl, rfl⟩
              go_wp2_with fail
              refine (near_is sp m false Hsp.out _ h0 h1).mono ?_
              rintro e' w' ⟨rfl, rfl⟩
              go_wp2_with fail
              go_ret
              exact ⟨ret_bool H.out.symm, below_alloc _ _⟩
            | true =>
              cases hmd : nearB m md with
              | false =>
                have H : Hid (bndB m b e s st sp md = false) := by simp [Hid, bndB, Hall.out, hb, he, hst, hsp, hmd]
                have Hb := Lib.hid hb
                have He := Lib.hid he
                have Hst := Lib.hid hst
                have Hsp := Lib.hid hsp
                have Hmd := Lib.hid hmd
                clear hb he hst hsp hmd
                go_wp2_with fail
                refine (near_is b m true Hb.out _ h0 h1).mono ?_
                rintro e' w' ⟨rfl, rfl⟩
                go_wp2_with fail
                refine (near_is e m true He.out _ h0 h1).mono ?_
                rintro e' w' ⟨rfl, rfl⟩
                go_wp2_with fail
                refine (near_is st m true Hst.out _ h0 h1).mono ?_
                rintro e' w' ⟨rfl, rfl⟩
                go_wp2_with fail
                refine (near_is sp m true Hsp.out _ h0 h1).mono ?_
                rintro e' w' ⟨rfl, rfl⟩
                go_wp2_with fail
                refine (near_is md m false Hmd.out _ h0 h1).mono ?_
                rintro e' w' ⟨rfl, rfl⟩
                go_wp2_with fail
                go_ret
                exact ⟨ret_bool H.out.symm, below_alloc _ _⟩
              | true =>
                have H : Hid (bndB m b e s st sp md = true) := by simp [Hid, bndB, Hall.out, hb, he, hst, hsp, hmd]
                have Hb := Lib.hid hb
                have He := Lib.hid he
                have Hst := Lib.hid hst
                have Hsp := Lib.hid hsp
                have Hmd := Lib.hid hmd
                clear hb he hst hsp hmd
                go_wp2_with fail
                refine (near_is b m true Hb.out _ h0 h1).mono ?_
                rintro e' w' ⟨rfl, rfl⟩
                go_wp2_with fail
                refine (near_is e m true He.out _ h0 h1).mono ?_
                rintro e' w' ⟨rfl, rfl⟩
                go_wp2_with fail
                refine (near_is st m true Hst.out _ h0 h1).mono ?_
                rintro e' w' ⟨rfl, rfl⟩
                go_wp2_with fail
                refine (near_is sp m true Hsp.out _ h0 h1).mono ?_
                rintro e' w' ⟨rfl, rfl⟩
                go_wp2_with fail
                refine (near_is md m true Hmd.out _ h0 h1).mono ?_
                rintro e' w' ⟨rfl, rfl⟩
                go_wp2_with fail
                go_ret
                exact ⟨ret_bool H.out.symm, below_alloc _ _⟩

theorem Bounded_is (k b e : Int) (p : Option Addr) (c : Nat) (s : List Int) (st sp md : Int) (m : Int) (r : Bool) (hr : bndB m b e s st sp md = r) (w : World) (h : Ints w p s) (h0 : 0 ≤ m) (h1 : m ≤ 4611686018427387904) :
    Calls Try.prog 22 #[.agg #[.int .i64 k, .int .i64 b, .int .i64 e, .slice p s.length c, .int .i64 st, .int .i64 sp, .int .i64 md], .int .i64 m] w fun e' w' => e' = .returned (.bool r) ∧ Below w.heap.size w w' := hr ▸ Bounded_any k b e p c s st sp md m w h h0 h1
/-- what the kind of an access asks -/
def kindB (k b e : Int) (s : List Int) (st sp md : Int) : Bool :=
  if k = 1 then (b == 0 && (e == 0 && ((s.length : Int) == 0 && (st == 0 && (sp == 0 && md == 0)))))
  else if k = 2 then (st == 0 && (sp == 0 && md == 0)) else if k = 3 then decide (0 < md) else false
/-- the seven cells of an access's variable -/
structure At7 (w : World) (g : Nat) (k b e : Int) (v : Value) (st sp md : Int) : Prop where
  lt : g < w.heap.size
  c0 : w.cell? ⟨g, 0, none⟩ = some (.int .i64 k)
  c1 : w.cell? ⟨g, 1, none⟩ = some (.int .i64 b)
  c2 : w.cell? ⟨g, 2, none⟩ = some (.int .i64 e)
  c3 : w.cell? ⟨g, 3, none⟩ = some v
  c4 : w.cell? ⟨g, 4, none⟩ = some (.int .i64 st)
  c5 : w.cell? ⟨g, 5, none⟩ = some (.int .i64 sp)
  c6 : w.cell? ⟨g, 6, none⟩ = some (.int .i64 md)
theorem At7.keep {w w' : World} {g : Nat} {k b e : Int} {v : Value} {st sp md : Int} (h : At7 w g k b e v st sp md) (hb : Below w.heap.size w w') : At7 w' g k b e v st sp md :=
  ⟨Nat.lt_of_lt_of_le h.lt hb.size, (hb.cell (p := ⟨g, 0, none⟩) h.lt).trans h.c0, (hb.cell (p := ⟨g, 1, none⟩) h.lt).trans h.c1, (hb.cell (p := ⟨g, 2, none⟩) h.lt).trans h.c2,
    (hb.cell (p := ⟨g, 3, none⟩) h.lt).trans h.c3, (hb.cell (p := ⟨g, 4, none⟩) h.lt).trans h.c4, (hb.cell (p := ⟨g, 5, none⟩) h.lt).trans h.c5, (hb.cell (p := ⟨g, 6, none⟩) h.lt).trans h.c6⟩
theorem At7.new (w : World) (g : Nat) (k b e : Int) (v : Value) (st sp md : Int) (T : TypeId) (hg : g = w.heap.size) : At7 (w.alloc (.cells #[.int .i64 k, .int .i64 b, .int .i64 e, v, .int .i64 st, .int .i64 sp, .int .i64 md] T)) g k b e v st sp md := by
  subst hg
  exact ⟨by simp, by simp [go_sem], by simp [go_sem], by simp [go_sem], by simp [go_sem], by simp [go_sem], by simp [go_sem], by simp [go_sem]⟩
set_option maxHeartbeats 1000000 in
theorem RSame_yes (k b e : Int) (p : Option Addr) (c : Nat) (s : List Int) (st sp md : Int) (p' : Option Addr) (c' : Nat) (w : World) (h : Ints w p s) (h' : Ints w p' s) :
    Calls Try.prog 19 #[.agg #[.int .i64 k, .int .i64 b, .int .i64 e, .slice p s.length c, .int .i64 st, .int .i64 sp, .int .i64 md], .agg #[.int .i64 k, .int .i64 b, .int .i64 e, .slice p' s.length c', .int .i64 st, .int .i64 sp, .int .i64 md]] w fun e' w' => e' = .returned (.bool true) ∧ Below w.heap.size w w' := by
  have hq0 : (k == k) = true := by simp
  have hq1 : (b == b) = true := by simp
  have hq2 : (e == e) = true := by simp
  have hq3 : (st == st) = true := by simp
  have hq4 : (sp == sp) = true := by simp
  have hq5 : (md == md) = true := by simp
  go_enter Try.func19, Try.ntmps19
  go_wp2_with fail
  refine (RefEqual_is s s true (by simp [eqS]) _ _ _ _ _ (h.keep (below_t (below_alloc _ _) (below_alloc _ _))) (h'.keep (below_t (below_alloc _ _) (below_alloc _ _)))).mono ?_
  rintro e1 w1 ⟨rfl, hb1⟩
  go_wp2_with fail
  go_ret
  exact ⟨rfl, below_2 hb1⟩
theorem SEq_is (xs ys : List Int) (r : Bool) (hr : eqS xs ys = r) (a b : Option Addr) (c d : Nat) (w : World) (h : Ints w a xs) (h' : Ints w b ys) :
    Calls Try.prog 23 #[.slice a xs.length c, .slice b ys.length d] w fun e w' => e = .returned (.bool r) ∧ Below w.heap.size w w' :=
  (SlicesEqual_any a b c d xs ys w h h').mono fun e w' ⟨he, n, hw⟩ => ⟨by rw [he, hr], hw ▸ below_drewN _ _ _⟩
set_option maxHeartbeats 2000000 in
theorem ASame_yes (k b e : Int) (p : Option Addr) (c : Nat) (s : List Int) (st sp md : Int) (p' : Option Addr) (c' : Nat) (w : World) (h : Ints w p s) (h' : Ints w p' s)  :
    Calls Try.prog 21 #[.agg #[.int .i64 k, .int .i64 b, .int .i64 e, .slice p s.length c, .int .i64 st, .int .i64 sp, .int .i64 md], .agg #[.int .i64 k, .int .i64 b, .int .i64 e, .slice p' s.length c', .int .i64 st, .int .i64 sp, .int .i64 md]] w fun e' w' => e' = .returned (.bool true) ∧ Below w.heap.size w w' := by
  have hq0 : (k == k) = true := by simp
  have hq1 : (b == b) = true := by simp
  have hq2 : (e == e) = true := by simp
  have hq3 : (st == st) = true := by simp
  have hq4 : (sp == sp) = true := by simp
  have hq5 : (md == md) = true := by simp
  go_enter Try.func21, Try.ntmps21
  go_wp2_with fail
  go_region
  all_goals
    go_wp2_with fail
    refine (SEq_is s s true (by simp [eqS]) _ _ _ _ _ (h.keep (by go_grown)) (h'.keep (by go_grown))).mono ?_
    rintro e1 w1 ⟨rfl, hb1⟩
    have hx0 := fun i => hb1.cell (p := ⟨w.heap.size + 2, i, none⟩) (by simp)
    have hy0 := fun i => hb1.cell (p := ⟨w.heap.size + 3, i, none⟩) (by simp)
    have x0 := hx0 0
    have x1 := hx0 1
    have x2 := hx0 2
    have x4 := hx0 4
    have x5 := hx0 5
    have x6 := hx0 6
    have y0 := hy0 0
    have y1 := hy0 1
    have y2 := hy0 2
    have y4 := hy0 4
    have y5 := hy0 5
    have y6 := hy0 6
    simp [go_sem] at x0 x1 x2 x4 x5 x6 y0 y1 y2 y4 y5 y6
    clear hx0 hy0
    have hb : Below w.heap.size w w1 := below_t (by go_grown) hb1
    clear hb1
    go_wp2_with fail
    go_ret
    exact ⟨rfl, hb⟩
end Go.Proofs.Ytgbeokfpegdgdaa
