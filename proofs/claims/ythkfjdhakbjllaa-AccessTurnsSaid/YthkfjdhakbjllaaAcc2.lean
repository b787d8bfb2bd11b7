/- The reference of layer 17 (access): Right at an access's own rank; the law's good; Inside. No condition. -/
import Derived.Test.YthkfjdhakbjllaaAcc1
import Derived.BigGuardPart
namespace Go.Proofs.Ythkfjdhakbjllaa
open Go.RowKit Go.Shelf
set_option linter.unusedVariables false
set_option linter.unusedSimpArgs false

/-- what the kind of an access asks -/
def kindB (k b e : Int) (s : List Int) (st sp md : Int) : Bool :=
  if k = 1 then (b == 0 && (e == 0 && ((s.length : Int) == 0 && (st == 0 && (sp == 0 && md == 0)))))
  else if k = 2 then (st == 0 && (sp == 0 && md == 0)) else if k = 3 then decide (0 < md) else false
def rightB (k b e : Int) (s : List Int) (st sp md : Int) : Bool := decide (s.length ≤ 16) && (bndB 1099511627776 b e s st sp md && (decide (0 ≤ b) && kindB k b e s st sp md))
def goodB (k b e : Int) (s : List Int) (st sp md : Int) : Bool := rightB k b e s st sp md && bndB 1000000000 b e s st sp md

/-- the seven cells of an access's variable -/
structure At7 (w : World) (g : Nat) (k b e : Int) (v : Value) (st sp md : Int) : Prop where
  lt : g < w.heap.size
  c0 : w.cell? ⟨g, 0, none⟩ = some (.int .i64 k)
  c1 : w.cell? ⟨g, 1, none⟩ = some (.int .i64 b)
  c2 : w.cell? ⟨g, 2, none⟩ = some (.int .i64 e)
  c3 : w.cell? ⟨g, 3, none⟩ = some v
  c4 : w.cell? ⟨g, 4, none⟩ = some (.int .i64 st)
  c5 : w.cell? ⟨g, 5, none⟩ = some (.int .i64 sp)
  c6 : w.cell? ⟨g, 6, none⟩ = some (.int .i64 md)
theorem At7.keep {w w' : World} {g : Nat} {k b e : Int} {v : Value} {st sp md : Int} (h : At7 w g k b e v st sp md) (hb : Below w.heap.size w w') : At7 w' g k b e v st sp md :=
  ⟨Nat.lt_of_lt_of_le h.lt hb.size, (hb.cell (p := ⟨g, 0, none⟩) h.lt).trans h.c0, (hb.cell (p := ⟨g, 1, none⟩) h.lt).trans h.c1, (hb.cell (p := ⟨g, 2, none⟩) h.lt).trans h.c2,
    (hb.cell (p := ⟨g, 3, none⟩) h.lt).trans h.c3, (hb.cell (p := ⟨g, 4, none⟩) h.lt).trans h.c4, (hb.cell (p := ⟨g, 5, none⟩) h.lt).trans h.c5, (hb.cell (p := ⟨g, 6, none⟩) h.lt).trans h.c6⟩
theorem At7.new (w : World) (g : Nat) (k b e : Int) (v : Value) (st sp md : Int) (T : TypeId) (hg : g = w.heap.size) : At7 (w.alloc (.cells #[.int .i64 k, .int .i64 b, .int .i64 e, v, .int .i64 st, .int .i64 sp, .int .i64 md] T)) g k b e v st sp md := by
  subst hg
  exact ⟨by simp, by simp [go_sem], by simp [go_sem], by simp [go_sem], by simp [go_sem], by simp [go_sem], by simp [go_sem], by simp [go_sem]⟩

set_option maxHeartbeats 1000000 in
theorem RRight_long (k b e : Int) (p : Option Addr) (c : Nat) (s : List Int) (st sp md : Int) (w : World) (h : Ints w p s) (hl : ¬ s.length ≤ 16) :
    Calls Try.prog 103 #[.agg #[.int .i64 k, .int .i64 b, .int .i64 e, .slice p s.length c, .int .i64 st, .int .i64 sp, .int .i64 md], .int .i64 s.length] w fun e' w' => e' = .returned (.bool (rightB k b e s st sp md)) ∧ Below w.heap.size w w' := by
  have hn := h.small
  have H : Hid (rightB k b e s st sp md = false) := by simp [Hid, rightB, hl]
  have hl1 : decide ((s.length : Int) < 0) = false := by simp
  have hl2 : decide (16 < (s.length : Int)) = true := by simp; omega
  go_enter Try.func103, Try.ntmps103
  go_wp2
  go_ret
  exact ⟨ret_bool H.out.symm, below_alloc _ _⟩

set_option maxHeartbeats 1000000 in
theorem RRight_far (k b e : Int) (p : Option Addr) (c : Nat) (s : List Int) (st sp md : Int) (w : World) (h : Ints w p s) (hl : s.length ≤ 16) (hb : bndB 1099511627776 b e s st sp md = false) :
    Calls Try.prog 103 #[.agg #[.int .i64 k, .int .i64 b, .int .i64 e, .slice p s.length c, .int .i64 st, .int .i64 sp, .int .i64 md], .int .i64 s.length] w fun e' w' => e' = .returned (.bool (rightB k b e s st sp md)) ∧ Below w.heap.size w w' := by
  have hn := h.small
  have hl1 : decide ((s.length : Int) < 0) = false := by simp
  have hl2 : decide (16 < (s.length : Int)) = false := by simp; omega
  have hss : ((s.length : Int) == (s.length : Int)) = true := by simp
  have H : Hid (rightB k b e s st sp md = false) := by simp [Hid, rightB, hb]
  have Hb := Lib.hid hb
  clear hb
  go_enter Try.func103, Try.ntmps103
  go_wp2_with fail
  refine (Bounded_is k b e p c s st sp md 1099511627776 false Hb.out _ (h.keep (below_alloc _ _)) (by omega) (by omega)).mono ?_
  rintro e w' ⟨rfl, hb1⟩
  have A := (At7.new w _ k b e (.slice p s.length c) st sp md 89 rfl).keep hb1
  have hA0 := A.c0
  have hA1 := A.c1
  have hA2 := A.c2
  have hA3 := A.c3
  have hA4 := A.c4
  have hA5 := A.c5
  have hA6 := A.c6
  have hb := below_1 hb1
  clear hb1
  go_wp2_with fail
  go_ret
  exact ⟨ret_bool H.out.symm, hb⟩

set_option maxHeartbeats 1000000 in
theorem RRight_minus (k b e : Int) (p : Option Addr) (c : Nat) (s : List Int) (st sp md : Int) (w : World) (h : Ints w p s) (hl : s.length ≤ 16) (hb : bndB 1099511627776 b e s st sp md = true) (hm : b < 0) :
    Calls Try.prog 103 #[.agg #[.int .i64 k, .int .i64 b, .int .i64 e, .slice p s.length c, .int .i64 st, .int .i64 sp, .int .i64 md], .int .i64 s.length] w fun e' w' => e' = .returned (.bool (rightB k b e s st sp md)) ∧ Below w.heap.size w w' := by
  have hn := h.small
  have hl1 : decide ((s.length : Int) < 0) = false := by simp
  have hl2 : decide (16 < (s.length : Int)) = false := by simp; omega
  have hss : ((s.length : Int) == (s.length : Int)) = true := by simp
  have H : Hid (rightB k b e s st sp md = false) := by simp [Hid, rightB]; omega
  have Hb := Lib.hid hb
  clear hb
  go_enter Try.func103, Try.ntmps103
  go_wp2_with fail
  refine (Bounded_is k b e p c s st sp md 1099511627776 true Hb.out _ (h.keep (below_alloc _ _)) (by omega) (by omega)).mono ?_
  rintro e w' ⟨rfl, hb1⟩
  have A := (At7.new w _ k b e (.slice p s.length c) st sp md 89 rfl).keep hb1
  have hA0 := A.c0
  have hA1 := A.c1
  have hA2 := A.c2
  have hA3 := A.c3
  have hA4 := A.c4
  have hA5 := A.c5
  have hA6 := A.c6
  have hb := below_1 hb1
  clear hb1
  go_wp2_with fail
  go_ret
  exact ⟨ret_bool H.out.symm, hb⟩

set_option maxHeartbeats 1000000 in
theorem RRight_1 (k b e : Int) (p : Option Addr) (c : Nat) (s : List Int) (st sp md : Int) (w : World) (h : Ints w p s) (hl : s.length ≤ 16) (hb : bndB 1099511627776 b e s st sp md = true) (hm : 0 ≤ b) (hk : k = 1) :
    Calls Try.prog 103 #[.agg #[.int .i64 k, .int .i64 b, .int .i64 e, .slice p s.length c, .int .i64 st, .int .i64 sp, .int .i64 md], .int .i64 s.length] w fun e' w' => e' = .returned (.bool (rightB k b e s st sp md)) ∧ Below w.heap.size w w' := by
  have hn := h.small
  subst hk
  have hl1 : decide ((s.length : Int) < 0) = false := by simp
  have hl2 : decide (16 < (s.length : Int)) = false := by simp; omega
  have hss : ((s.length : Int) == (s.length : Int)) = true := by simp
  have H : Hid (rightB 1 b e s st sp md = kindB 1 b e s st sp md) := by simp [Hid, rightB, hl, hb, hm]
  have Hb := Lib.hid hb
  clear hb
  go_enter Try.func103, Try.ntmps103
  go_wp2_with fail
  refine (Bounded_is 1 b e p c s st sp md 1099511627776 true Hb.out _ (h.keep (below_alloc _ _)) (by omega) (by omega)).mono ?_
  rintro e w' ⟨rfl, hb1⟩
  have A := (At7.new w _ 1 b e (.slice p s.length c) st sp md 89 rfl).keep hb1
  have hA0 := A.c0
  have hA1 := A.c1
  have hA2 := A.c2
  have hA3 := A.c3
  have hA4 := A.c4
  have hA5 := A.c5
  have hA6 := A.c6
  have hb := below_1 hb1
  clear hb1
  go_wp2_with fail
  all_goals
    go_ret
    exact ⟨ret_bool (by rw [H.out]; unfold kindB; first | (simp [*]; done) | (simp [*]; intro h; exfalso; subst h; rename_i hne; exact hne rfl)), hb⟩

set_option maxHeartbeats 1000000 in
theorem RRight_2 (k b e : Int) (p : Option Addr) (c : Nat) (s : List Int) (st sp md : Int) (w : World) (h : Ints w p s) (hl : s.length ≤ 16) (hb : bndB 1099511627776 b e s st sp md = true) (hm : 0 ≤ b) (hk : k = 2) :
    Calls Try.prog 103 #[.agg #[.int .i64 k, .int .i64 b, .int .i64 e, .slice p s.length c, .int .i64 st, .int .i64 sp, .int .i64 md], .int .i64 s.length] w fun e' w' => e' = .returned (.bool (rightB k b e s st sp md)) ∧ Below w.heap.size w w' := by
  have hn := h.small
  subst hk
  have hl1 : decide ((s.length : Int) < 0) = false := by simp
  have hl2 : decide (16 < (s.length : Int)) = false := by simp; omega
  have hss : ((s.length : Int) == (s.length : Int)) = true := by simp
  have H : Hid (rightB 2 b e s st sp md = kindB 2 b e s st sp md) := by simp [Hid, rightB, hl, hb, hm]
  have Hb := Lib.hid hb
  clear hb
  go_enter Try.func103, Try.ntmps103
  go_wp2_with fail
  refine (Bounded_is 2 b e p c s st sp md 1099511627776 true Hb.out _ (h.keep (below_alloc _ _)) (by omega) (by omega)).mono ?_
  rintro e w' ⟨rfl, hb1⟩
  have A := (At7.new w _ 2 b e (.slice p s.length c) st sp md 89 rfl).keep hb1
  have hA0 := A.c0
  have hA1 := A.c1
  have hA2 := A.c2
  have hA3 := A.c3
  have hA4 := A.c4
  have hA5 := A.c5
  have hA6 := A.c6
  have hb := below_1 hb1
  clear hb1
  go_wp2_with fail
  all_goals
    go_ret
    exact ⟨ret_bool (by rw [H.out]; unfold kindB; first | (simp [*]; done) | (simp [*]; intro h; exfalso; subst h; rename_i hne; exact hne rfl)), hb⟩

set_option maxHeartbeats 1000000 in
theorem RRight_3 (k b e : Int) (p : Option Addr) (c : Nat) (s : List Int) (st sp md : Int) (w : World) (h : Ints w p s) (hl : s.length ≤ 16) (hb : bndB 1099511627776 b e s st sp md = true) (hm : 0 ≤ b) (hk : k = 3) :
    Calls Try.prog 103 #[.agg #[.int .i64 k, .int .i64 b, .int .i64 e, .slice p s.length c, .int .i64 st, .int .i64 sp, .int .i64 md], .int .i64 s.length] w fun e' w' => e' = .returned (.bool (rightB k b e s st sp md)) ∧ Below w.heap.size w w' := by
  have hn := h.small
  subst hk
  have hl1 : decide ((s.length : Int) < 0) = false := by simp
  have hl2 : decide (16 < (s.length : Int)) = false := by simp; omega
  have hss : ((s.length : Int) == (s.length : Int)) = true := by simp
  have H : Hid (rightB 3 b e s st sp md = kindB 3 b e s st sp md) := by simp [Hid, rightB, hl, hb, hm]
  have Hb := Lib.hid hb
  clear hb
  go_enter Try.func103, Try.ntmps103
  go_wp2_with fail
  refine (Bounded_is 3 b e p c s st sp md 1099511627776 true Hb.out _ (h.keep (below_alloc _ _)) (by omega) (by omega)).mono ?_
  rintro e w' ⟨rfl, hb1⟩
  have A := (At7.new w _ 3 b e (.slice p s.length c) st sp md 89 rfl).keep hb1
  have hA0 := A.c0
  have hA1 := A.c1
  have hA2 := A.c2
  have hA3 := A.c3
  have hA4 := A.c4
  have hA5 := A.c5
  have hA6 := A.c6
  have hb := below_1 hb1
  clear hb1
  go_wp2_with fail
  all_goals
    go_ret
    exact ⟨ret_bool (by rw [H.out]; unfold kindB; first | (simp [*]; done) | (simp [*]; intro h; exfalso; subst h; rename_i hne; exact hne rfl)), hb⟩

set_option maxHeartbeats 1000000 in
theorem RRight_other (k b e : Int) (p : Option Addr) (c : Nat) (s : List Int) (st sp md : Int) (w : World) (h : Ints w p s) (hl : s.length ≤ 16) (hb : bndB 1099511627776 b e s st sp md = true) (hm : 0 ≤ b) (h1 : k ≠ 1) (h2 : k ≠ 2) (h3 : k ≠ 3) :
    Calls Try.prog 103 #[.agg #[.int .i64 k, .int .i64 b, .int .i64 e, .slice p s.length c, .int .i64 st, .int .i64 sp, .int .i64 md], .int .i64 s.length] w fun e' w' => e' = .returned (.bool (rightB k b e s st sp md)) ∧ Below w.heap.size w w' := by
  have hn := h.small
  have hl1 : decide ((s.length : Int) < 0) = false := by simp
  have hl2 : decide (16 < (s.length : Int)) = false := by simp; omega
  have hss : ((s.length : Int) == (s.length : Int)) = true := by simp
  have H : Hid (rightB k b e s st sp md = false) := by simp [Hid, rightB, kindB, h1, h2, h3]
  have hk1 : (k == 1) = false := by simp [h1]
  have hk2 : (k == 2) = false := by simp [h2]
  have hk3 : (k == 3) = false := by simp [h3]
  have Hb := Lib.hid hb
  clear hb h1 h2 h3
  go_enter Try.func103, Try.ntmps103
  go_wp2_with fail
  refine (Bounded_is k b e p c s st sp md 1099511627776 true Hb.out _ (h.keep (below_alloc _ _)) (by omega) (by omega)).mono ?_
  rintro e w' ⟨rfl, hb1⟩
  have A := (At7.new w _ k b e (.slice p s.length c) st sp md 89 rfl).keep hb1
  have hA0 := A.c0
  have hA1 := A.c1
  have hA2 := A.c2
  have hA3 := A.c3
  have hA4 := A.c4
  have hA5 := A.c5
  have hA6 := A.c6
  have hb := below_1 hb1
  clear hb1
  go_wp2_with fail
  go_ret
  exact ⟨ret_bool H.out.symm, hb⟩

theorem RRight_any (k b e : Int) (p : Option Addr) (c : Nat) (s : List Int) (st sp md : Int) (w : World) (h : Ints w p s) :
    Calls Try.prog 103 #[.agg #[.int .i64 k, .int .i64 b, .int .i64 e, .slice p s.length c, .int .i64 st, .int .i64 sp, .int .i64 md], .int .i64 s.length] w fun e' w' => e' = .returned (.bool (rightB k b e s st sp md)) ∧ Below w.heap.size w w' := by
  by_cases hl : s.length ≤ 16
  · cases hb : bndB 1099511627776 b e s st sp md with
    | false => exact RRight_far k b e p c s st sp md w h hl hb
    | true =>
      by_cases hm : b < 0
      · exact RRight_minus k b e p c s st sp md w h hl hb hm
      · by_cases h1 : k = 1
        · exact RRight_1 k b e p c s st sp md w h hl hb (by omega) h1
        · by_cases h2 : k = 2
          · exact RRight_2 k b e p c s st sp md w h hl hb (by omega) h2
          · by_cases h3 : k = 3
            · exact RRight_3 k b e p c s st sp md w h hl hb (by omega) h3
            · exact RRight_other k b e p c s st sp md w h hl hb (by omega) h1 h2 h3
  · exact RRight_long k b e p c s st sp md w h hl
theorem RRight_is (k b e : Int) (p : Option Addr) (c : Nat) (s : List Int) (st sp md : Int) (r : Bool) (hr : rightB k b e s st sp md = r) (w : World) (h : Ints w p s) :
    Calls Try.prog 103 #[.agg #[.int .i64 k, .int .i64 b, .int .i64 e, .slice p s.length c, .int .i64 st, .int .i64 sp, .int .i64 md], .int .i64 s.length] w fun e' w' => e' = .returned (.bool r) ∧ Below w.heap.size w w' := hr ▸ RRight_any k b e p c s st sp md w h

theorem good_any (k b e : Int) (p : Option Addr) (c : Nat) (s : List Int) (st sp md : Int) (w : World) (h : Ints w p s) :
    Calls Try.prog 65 #[.agg #[.int .i64 k, .int .i64 b, .int .i64 e, .slice p s.length c, .int .i64 st, .int .i64 sp, .int .i64 md]] w fun e' w' => e' = .returned (.bool (goodB k b e s st sp md)) ∧ Below w.heap.size w w' := by
  have hn := h.small
  cases hr : rightB k b e s st sp md with
  | false =>
    have H : Hid (goodB k b e s st sp md = false) := by simp [Hid, goodB, hr]
    have Hr := Lib.hid hr
    clear hr
    go_enter Try.func65, Try.ntmps65
    go_wp2_with fail
    refine (RRight_is k b e p c s st sp md false Hr.out _ (h.keep (below_alloc _ _))).mono ?_
    rintro e w' ⟨rfl, hb1⟩
    go_wp2_with fail
    go_ret
    exact ⟨ret_bool H.out.symm, below_1 hb1⟩
  | true =>
    obtain ⟨z, hz⟩ : ∃ z, bndB 1000000000 b e s st sp md = z := ⟨_, rfl⟩
    have H : Hid (goodB k b e s st sp md = z) := by simp [Hid, goodB, hr, hz]
    have Hr := Lib.hid hr
    have Hz := Lib.hid hz
    clear hr hz
    go_enter Try.func65, Try.ntmps65
    go_wp2_with fail
    refine (RRight_is k b e p c s st sp md true Hr.out _ (h.keep (below_alloc _ _))).mono ?_
    rintro e w' ⟨rfl, hb1⟩
    have A := (At7.new w _ k b e (.slice p s.length c) st sp md 89 rfl).keep hb1
    have hA0 := A.c0
    have hA1 := A.c1
    have hA2 := A.c2
    have hA3 := A.c3
    have hA4 := A.c4
    have hA5 := A.c5
    have hA6 := A.c6
    have hb := below_1 hb1
    clear hb1
    go_wp2_with fail
    refine (Bounded_is k b e p c s st sp md 1000000000 z Hz.out _ (h.keep hb) (by omega) (by omega)).mono ?_
    rintro e w' ⟨rfl, hb2⟩
    go_wp2_with fail
    go_ret
    exact ⟨ret_bool H.out.symm, below_t hb hb2⟩
end Go.Proofs.Ythkfjdhakbjllaa
