/- The reference of layer 17 (access): near, Bounded, Right, Inside; the law's good. No condition. -/
import Derived.Test.YthkfjdhakbjllaaCommon
import Derived.Test.YthkfjdhakbjllaaHeld
namespace Go.Proofs.Ythkfjdhakbjllaa
open Go.RowKit Go.Shelf
set_option linter.unusedVariables false
set_option linter.unusedSimpArgs false

/-- from -m to m -/
def nearB (m n : Int) : Bool := decide (-m ≤ n) && decide (n ≤ m)
theorem nearB_true {m n : Int} (h : nearB m n = true) : -m ≤ n ∧ n ≤ m := by
  unfold nearB at h
  rw [Bool.and_eq_true] at h
  exact ⟨of_decide_eq_true h.1, of_decide_eq_true h.2⟩

theorem near_any (n m : Int) (w : World) (h0 : 0 ≤ m) (h1 : m ≤ 4611686018427387904) :
    Calls Try.prog 105 #[.int .i64 n, .int .i64 m] w fun e w' => e = .returned (.bool (nearB m n)) ∧ w = w' := by
  by_cases h2 : -m ≤ n
  · have H : Hid (nearB m n = decide (n ≤ m)) := by simp [Hid, nearB, h2]
    have hd : decide (-m ≤ n) = true := by simpa using h2
    go_enter Try.func105, Try.ntmps105
    go_wp2
    go_ret
    exact ⟨ret_bool H.out.symm, rfl⟩
  · have H : Hid (nearB m n = false) := by simp [Hid, nearB, h2]
    have hd : decide (-m ≤ n) = false := by simpa using h2
    go_enter Try.func105, Try.ntmps105
    go_wp2
    go_ret
    exact ⟨ret_bool H.out.symm, rfl⟩
theorem near_is (n m : Int) (r : Bool) (hr : nearB m n = r) (w : World) (h0 : 0 ≤ m) (h1 : m ≤ 4611686018427387904) :
    Calls Try.prog 105 #[.int .i64 n, .int .i64 m] w fun e w' => e = .returned (.bool r) ∧ w = w' := hr ▸ near_any n m w h0 h1

/-- whether all numbers of an access are from -m to m -/
def bndB (m b e : Int) (s : List Int) (st sp md : Int) : Bool := s.all (nearB m) && (nearB m b && (nearB m e && (nearB m st && (nearB m sp && nearB m md))))

set_option maxHeartbeats 2000000 in
theorem Bounded_any (k b e : Int) (p : Option Addr) (c : Nat) (s : List Int) (st sp md : Int) (m : Int) (w : World) (h : Ints w p s) (h0 : 0 ≤ m) (h1 : m ≤ 4611686018427387904) :
    Calls Try.prog 104 #[.agg #[.int .i64 k, .int .i64 b, .int .i64 e, .slice p s.length c, .int .i64 st, .int .i64 sp, .int .i64 md], .int .i64 m] w fun e' w' => e' = .returned (.bool (bndB m b e s st sp md)) ∧ Below w.heap.size w w' := by
  have hn := h.small
  go_enter Try.func104, Try.ntmps104
  go_wp2
  go_loop [5] (fun i => ∃ j : Nat, j ≤ s.length ∧ i = .int .i64 j ∧ Hid ((s.take j).all (nearB m) = true)) (fun i => s.length - (intOf i).toNat)
  case atStart => exact ⟨0, Nat.zero_le _, rfl, by simp [Hid]⟩
  case round =>
    obtain ⟨j, hj, rfl, hI⟩ := hrel
    by_cases hlt : j < s.length
    · have h' := h.keep (below_alloc w (.cells #[.int .i64 k, .int .i64 b, .int .i64 e, .slice p s.length c, .int .i64 st, .int .i64 sp, .int .i64 md] 89))
      obtain ⟨b1, o1, rfl, -, hc⟩ := h'.at hlt
      have hi : (j : Int) < (s.length : Int) := by omega
      cases hx : nearB m (nth s j) with
      | true =>
        have Hi : Hid ((s.take (j + 1)).all (nearB m) = true) := by unfold Hid; rw [take_nth hlt, List.all_append, hI.out]; simp [hx]
        have Hx := Lib.hid hx
        clear hx
        go_wp2_with fail
        refine (near_is _ m true Hx.out _ h0 h1).mono ?_
        rintro e' w' ⟨rfl, rfl⟩
        go_wp2_with fail
        go_round
        case rel => exact ⟨j + 1, by omega, by go_num, Hi⟩
        case measure => simp [intOf]; omega
      | false =>
        have Hi : Hid (bndB m b e s st sp md = false) := by
          have : s.all (nearB m) = false := by
            rw [List.all_eq_false]
            exact ⟨nth s j, nth_mem hlt, by simp [hx]⟩
          simp [Hid, bndB, this]
        have Hx := Lib.hid hx
        clear hx
        go_wp2_with fail
        refine (near_is _ m false Hx.out _ h0 h1).mono ?_
        rintro e' w' ⟨rfl, rfl⟩
        go_wp2_with fail
        go_ret
        exact ⟨ret_bool Hi.out.symm, below_alloc _ _⟩
    · have Hall : Hid (s.all (nearB m) = true) := by
        have := hI.out
        rw [List.take_of_length_le (by omega)] at this
        exact this
      cases hb : nearB m b with
      | false =>
        have H : Hid (bndB m b e s st sp md = false) := by simp [Hid, bndB, Hall.out, hb]
        have Hb := Lib.hid hb
        clear hb
        go_wp2_with fail
        refine (near_is b m false Hb.out _ h0 h1).mono ?_
        rintro e' w' ⟨rfl, rfl⟩
        go_wp2_with fail
        go_ret
        exact ⟨ret_bool H.out.symm, below_alloc _ _⟩
      | true =>
        cases he : nearB m e with
        | false =>
          have H : Hid (bndB m b e s st sp md = false) := by simp [Hid, bndB, Hall.out, hb, he]
          have Hb := Lib.hid hb
          have He := Lib.hid he
          clear hb he
          go_wp2_with fail
          refine (near_is b m true Hb.out _ h0 h1).mono ?_
          rintro e' w' ⟨rfl, rfl⟩
          go_wp2_with fail
          refine (near_is e m false He.out _ h0 h1).mono ?_
          rintro e' w' ⟨rfl, rfl⟩
          go_wp2_with fail
          go_ret
          exact ⟨ret_bool H.out.symm, below_alloc _ _⟩
        | true =>
          cases hst : nearB m st with
          | false =>
            have H : Hid (bndB m b e s st sp md = false) := by simp [Hid, bndB, Hall.out, hb, he, hst]
            have Hb := Lib.hid hb
            have He := Lib.hid he
            have Hst := Lib.hid hst
            clear hb he hst
            go_wp2_with fail
            refine (near_is b m true Hb.out _ h0 h1).mono ?_
            rintro e' w' ⟨rfl, rfl⟩
            go_wp2_with fail
            refine (near_is e m true He.out _ h0 h1).mono ?_
            rintro e' w' ⟨rfl, rfl⟩
            go_wp2_with fail
            refine (near_is st m false Hst.out _ h0 h1).mono ?_
            rintro e' w' ⟨rfl, rfl⟩
            go_wp2_with fail
            go_ret
            exact ⟨ret_bool H.out.symm, below_alloc _ _⟩
          | true =>
            cases hsp : nearB m sp with
            | false =>
              have H : Hid (bndB m b e s st sp md = false) := by simp [Hid, bndB, Hall.out, hb, he, hst, hsp]
              have Hb := Lib.hid hb
              have He := Lib.hid he
              have Hst := Lib.hid hst
              have Hsp := Lib.hid hsp
              clear hb he hst hsp
              go_wp2_with fail
              refine (near_is b m true Hb.out _ h0 h1).mono ?_
              rintro e' w' ⟨rfl, rfl⟩
              go_wp2_with fail
              refine (near_is e m true He.out _ h0 h1).mono ?_
              rintro e' w' ⟨rfl, rfl⟩
              go_wp2_with fail
              refine (near_is st m true Hst.out _ h0 h1).mono ?_
              rintro e' w' ⟨rfl, rfl⟩
              go_wp2_with fail
              refine (near_is sp m false Hsp.out _ h0 h1).mono ?_
              rintro e' w' ⟨rfl, rfl⟩
              go_wp2_with fail
              go_ret
              exact ⟨ret_bool H.out.symm, below_alloc _ _⟩
            | true =>
              cases hmd : nearB m md with
              | false =>
                have H : Hid (bndB m b e s st sp md = false) := by simp [Hid, bndB, Hall.out, hb, he, hst, hsp, hmd]
                have Hb := Lib.hid hb
                have He := Lib.hid he
                have Hst := Lib.hid hst
                have Hsp := Lib.hid hsp
                have Hmd := Lib.hid hmd
                clear hb he hst hsp hmd
                go_wp2_with fail
                refine (near_is b m true Hb.out _ h0 h1).mono ?_
                rintro e' w' ⟨rfl, rfl⟩
                go_wp2_with fail
                refine (near_is e m true He.out _ h0 h1).mono ?_
                rintro e' w' ⟨rfl, rfl⟩
                go_wp2_with fail
                refine (near_is st m true Hst.out _ h0 h1).mono ?_
                rintro e' w' ⟨rfl, rfl⟩
                go_wp2_with fail
                refine (near_is sp m true Hsp.out _ h0 h1).mono ?_
                rintro e' w' ⟨rfl, rfl⟩
                go_wp2_with fail
                refine (near_is md m false Hmd.out _ h0 h1).mono ?_
                rintro e' w' ⟨rfl, rfl⟩
                go_wp2_with fail
                go_ret
                exact ⟨ret_bool H.out.symm, below_alloc _ _⟩
              | true =>
                have H : Hid (bndB m b e s st sp md = true) := by simp [Hid, bndB, Hall.out, hb, he, hst, hsp, hmd]
                have Hb := Lib.hid hb
                have He := Lib.hid he
                have Hst := Lib.hid hst
                have Hsp := Lib.hid hsp
                have Hmd := Lib.hid hmd
                clear hb he hst hsp hmd
                go_wp2_with fail
                refine (near_is b m true Hb.out _ h0 h1).mono ?_
                rintro e' w' ⟨rfl, rfl⟩
                go_wp2_with fail
                refine (near_is e m true He.out _ h0 h1).mono ?_
                rintro e' w' ⟨rfl, rfl⟩
                go_wp2_with fail
                refine (near_is st m true Hst.out _ h0 h1).mono ?_
                rintro e' w' ⟨rfl, rfl⟩
                go_wp2_with fail
                refine (near_is sp m true Hsp.out _ h0 h1).mono ?_
                rintro e' w' ⟨rfl, rfl⟩
                go_wp2_with fail
                refine (near_is md m true Hmd.out _ h0 h1).mono ?_
                rintro e' w' ⟨rfl, rfl⟩
                go_wp2_with fail
                go_ret
                exact ⟨ret_bool H.out.symm, below_alloc _ _⟩

theorem Bounded_is (k b e : Int) (p : Option Addr) (c : Nat) (s : List Int) (st sp md : Int) (m : Int) (r : Bool) (hr : bndB m b e s st sp md = r) (w : World) (h : Ints w p s) (h0 : 0 ≤ m) (h1 : m ≤ 4611686018427387904) :
    Calls Try.prog 104 #[.agg #[.int .i64 k, .int .i64 b, .int .i64 e, .slice p s.length c, .int .i64 st, .int .i64 sp, .int .i64 md], .int .i64 m] w fun e' w' => e' = .returned (.bool r) ∧ Below w.heap.size w w' := hr ▸ Bounded_any k b e p c s st sp md m w h h0 h1
end Go.Proofs.Ythkfjdhakbjllaa
