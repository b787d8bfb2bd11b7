/- What access.At returns, and its reference; access.Direct and its reference. No condition beyond: the numbers are not too large. -/
import Derived.Test.YthkfjdhakbjllaaAcc3
import Derived.IntWalk
namespace Go.Proofs.Ythkfjdhakbjllaa
open Go.RowKit Go.Shelf
set_option linter.unusedVariables false
set_option linter.unusedSimpArgs false

set_option maxHeartbeats 2000000 in
theorem AccAt_2 (b e : Int) (p : Option Addr) (c : Nat) (s : List Int) (st sp md : Int) (q : Option Addr) (d : Nat) (ix : List Int) (D : Int) (hD : dotW s ix 0 = D) (w : World) (h : Ints w p s) (h' : Ints w q ix) (hl : s.length ≤ 1000000) (he : -1000000000000 ≤ e ∧ e ≤ 1000000000000) (hst : -1000000000000 ≤ st ∧ st ≤ 1000000000000) (hd : -1000000000000000000 ≤ D ∧ D ≤ 1000000000000000000)  :
    Calls Try.prog 67 #[.agg #[.int .i64 2, .int .i64 b, .int .i64 e, .slice p s.length c, .int .i64 st, .int .i64 sp, .int .i64 md], .slice q ix.length d] w fun e' w' => e' = .returned (.tuple #[.int .i64 (e + D), .bool true]) ∧ Below w.heap.size w w' := by
  have HD := Lib.hid hD
  obtain ⟨he1, he2⟩ := he
  obtain ⟨hst1, hst2⟩ := hst
  obtain ⟨hd1, hd2⟩ := hd
  clear hD
  go_enter Try.func67, Try.ntmps67
  go_wp2_with fail
  refine (open_any 2 b e p c s st sp md _ (h.keep (below_alloc _ _)) hl).mono ?_
  rintro e1 w1 ⟨g, p', c', rfl, hg, hO, hN, hb1⟩
  have hx0 := Own.cell hO (i := 0) rfl
  have hx1 := Own.cell hO (i := 1) rfl
  have A := (At7.new w _ 2 b e (.slice p s.length c) st sp md 93 rfl).keep hb1
  have hA0 := A.c0
  have hA1 := A.c1
  have hA2 := A.c2
  have hA3 := A.c3
  have hA4 := A.c4
  have hA5 := A.c5
  have hA6 := A.c6
  have hb := below_1 hb1
  have hN := New.ints (show New _ w1 p' 3 (s.map (.int .i64)) from hN) h.i64 h.small
  rw [show firstS 2 e st = e by simp [firstS]] at hx0
  clear hb1
  go_wp2_with fail
  refine (linat_any e D p' q c' d s ix HD.out _ hN (h'.keep hb) (by omega) (by omega)).mono ?_
  rintro e2 w2 ⟨rfl, hb2⟩
  have A := A.keep hb2
  have hA0 := A.c0
  have hA1 := A.c1
  have hA2 := A.c2
  have hA3 := A.c3
  have hA4 := A.c4
  have hA5 := A.c5
  have hA6 := A.c6
  have hb := below_t hb hb2
  clear hb2 hx0 hx1
  go_wp2
  go_ret2
  exact ⟨rfl, hb⟩

set_option maxHeartbeats 2000000 in
theorem AccAt_3 (b e : Int) (p : Option Addr) (c : Nat) (s : List Int) (st sp md : Int) (q : Option Addr) (d : Nat) (ix : List Int) (D : Int) (hD : dotW s ix 0 = D) (w : World) (h : Ints w p s) (h' : Ints w q ix) (hl : s.length ≤ 1000000) (he : -1000000000000 ≤ e ∧ e ≤ 1000000000000) (hst : -1000000000000 ≤ st ∧ st ≤ 1000000000000) (hd : -1000000000000000000 ≤ D ∧ D ≤ 1000000000000000000) (M X : Int) (hM : modS (st + D) md = M) (hX : sp * M = X) (hXb : -2000000000000000000 ≤ X ∧ X ≤ 2000000000000000000) (hmd : I64 md) :
    Calls Try.prog 67 #[.agg #[.int .i64 3, .int .i64 b, .int .i64 e, .slice p s.length c, .int .i64 st, .int .i64 sp, .int .i64 md], .slice q ix.length d] w fun e' w' => e' = .returned (.tuple #[.int .i64 (e + X), .bool true]) ∧ Below w.heap.size w w' := by
  have HM := Lib.hid hM
  have HX := Lib.hid hX
  obtain ⟨hX1, hX2⟩ := hXb
  clear hM hX
  have HD := Lib.hid hD
  obtain ⟨he1, he2⟩ := he
  obtain ⟨hst1, hst2⟩ := hst
  obtain ⟨hd1, hd2⟩ := hd
  clear hD
  go_enter Try.func67, Try.ntmps67
  go_wp2_with fail
  refine (open_any 3 b e p c s st sp md _ (h.keep (below_alloc _ _)) hl).mono ?_
  rintro e1 w1 ⟨g, p', c', rfl, hg, hO, hN, hb1⟩
  have hx0 := Own.cell hO (i := 0) rfl
  have hx1 := Own.cell hO (i := 1) rfl
  have A := (At7.new w _ 3 b e (.slice p s.length c) st sp md 93 rfl).keep hb1
  have hA0 := A.c0
  have hA1 := A.c1
  have hA2 := A.c2
  have hA3 := A.c3
  have hA4 := A.c4
  have hA5 := A.c5
  have hA6 := A.c6
  have hb := below_1 hb1
  have hN := New.ints (show New _ w1 p' 3 (s.map (.int .i64)) from hN) h.i64 h.small
  rw [show firstS 3 e st = st by simp [firstS]] at hx0
  clear hb1
  go_wp2_with fail
  refine (linat_any st D p' q c' d s ix HD.out _ hN (h'.keep hb) (by omega) (by omega)).mono ?_
  rintro e2 w2 ⟨rfl, hb2⟩
  have A := A.keep hb2
  have hA0 := A.c0
  have hA1 := A.c1
  have hA2 := A.c2
  have hA3 := A.c3
  have hA4 := A.c4
  have hA5 := A.c5
  have hA6 := A.c6
  have hb := below_t hb hb2
  clear hb2 hx0 hx1
  have Hmod : Hid (∀ W, Calls Try.prog 108 #[.int .i64 (st + D), .int .i64 md] W fun e w' => e = .returned (.int .i64 M) ∧ W = w') := by
    intro W
    have := Mod_any (st + D) md W ⟨by omega, by omega⟩ hmd
    rw [HM.out] at this
    exact this
  go_wp2_with fail
  have hw1 : IntKind.i64.wrap (sp * M) = X := by rw [HX.out]; exact IntWalk.i64_in _ (by omega)
  have hw2 : IntKind.i64.wrap (e + X) = e + X := IntWalk.i64_in _ (by omega)
  go_quiet ((go_at_call 108; exact quiet_left (Hmod.out _)))
  clear hw1 hw2
  go_wp2
  go_ret2
  exact ⟨rfl, hb.trans (below_drewN _ _ _)⟩

set_option maxHeartbeats 2000000 in
theorem AccAt_0 (k b e : Int) (p : Option Addr) (c : Nat) (s : List Int) (st sp md : Int) (q : Option Addr) (d : Nat) (ix : List Int) (D : Int) (hD : dotW s ix 0 = D) (w : World) (h : Ints w p s) (h' : Ints w q ix) (hl : s.length ≤ 1000000) (he : -1000000000000 ≤ e ∧ e ≤ 1000000000000) (hst : -1000000000000 ≤ st ∧ st ≤ 1000000000000) (hd : -1000000000000000000 ≤ D ∧ D ≤ 1000000000000000000) (h2 : k ≠ 2) (h3 : k ≠ 3) :
    Calls Try.prog 67 #[.agg #[.int .i64 k, .int .i64 b, .int .i64 e, .slice p s.length c, .int .i64 st, .int .i64 sp, .int .i64 md], .slice q ix.length d] w fun e' w' => e' = .returned (.tuple #[.int .i64 0, .bool false]) ∧ Below w.heap.size w w' := by
  have hk2 : (k == 2) = false := by simp [h2]
  have hk3 : (k == 3) = false := by simp [h3]
  have HD := Lib.hid hD
  obtain ⟨he1, he2⟩ := he
  obtain ⟨hst1, hst2⟩ := hst
  obtain ⟨hd1, hd2⟩ := hd
  clear hD
  go_enter Try.func67, Try.ntmps67
  go_wp2_with fail
  refine (open_any k b e p c s st sp md _ (h.keep (below_alloc _ _)) hl).mono ?_
  rintro e1 w1 ⟨g, p', c', rfl, hg, hO, hN, hb1⟩
  have hx0 := Own.cell hO (i := 0) rfl
  have hx1 := Own.cell hO (i := 1) rfl
  have A := (At7.new w _ k b e (.slice p s.length c) st sp md 93 rfl).keep hb1
  have hA0 := A.c0
  have hA1 := A.c1
  have hA2 := A.c2
  have hA3 := A.c3
  have hA4 := A.c4
  have hA5 := A.c5
  have hA6 := A.c6
  have hb := below_1 hb1
  have hN := New.ints (show New _ w1 p' 3 (s.map (.int .i64)) from hN) h.i64 h.small
  rw [show firstS k e st = e by simp [firstS, h3]] at hx0
  clear hb1 h2 h3
  go_wp2_with fail
  refine (linat_any e D p' q c' d s ix HD.out _ hN (h'.keep hb) (by omega) (by omega)).mono ?_
  rintro e2 w2 ⟨rfl, hb2⟩
  have A := A.keep hb2
  have hA0 := A.c0
  have hA1 := A.c1
  have hA2 := A.c2
  have hA3 := A.c3
  have hA4 := A.c4
  have hA5 := A.c5
  have hA6 := A.c6
  have hb := below_t hb hb2
  clear hb2 hx0 hx1
  go_wp2
  go_ret2
  exact ⟨rfl, hb⟩

theorem wrap64_ok {x : Int} (h1 : -9223372036854775808 ≤ x) (h2 : x ≤ 9223372036854775807) : wrap64 x = x := by unfold wrap64; omega
theorem RefDot_is (a b : Option Addr) (c d : Nat) (xs ys : List Int) (D : Int) (hD : dotW xs ys 0 = D) (w : World) (h : Ints w a xs) (h' : Ints w b ys) :
    Calls Try.prog 30 #[.slice a xs.length c, .slice b ys.length d] w fun e w' => e = .returned (.int .i64 D) ∧ Below w.heap.size w w' :=
  (RefDot_any a b c d xs ys w h h').mono fun e w' ⟨he, n, hw⟩ => ⟨by rw [he, hD], hw ▸ below_drewN _ _ _⟩

set_option maxHeartbeats 2000000 in
theorem RAt_2 (b e : Int) (p : Option Addr) (c : Nat) (s : List Int) (st sp md : Int) (q : Option Addr) (d : Nat) (ix : List Int) (D : Int) (hD : dotW s ix 0 = D) (w : World) (h : Ints w p s) (h' : Ints w q ix) (he : -1000000000000 ≤ e ∧ e ≤ 1000000000000) (hst : -1000000000000 ≤ st ∧ st ≤ 1000000000000) (hd : -1000000000000000000 ≤ D ∧ D ≤ 1000000000000000000)  :
    Calls Try.prog 68 #[.agg #[.int .i64 2, .int .i64 b, .int .i64 e, .slice p s.length c, .int .i64 st, .int .i64 sp, .int .i64 md], .slice q ix.length d] w fun e' w' => e' = .returned (.tuple #[.int .i64 (e + D), .bool true]) ∧ Below w.heap.size w w' := by
  have HD := Lib.hid hD
  obtain ⟨he1, he2⟩ := he
  obtain ⟨hst1, hst2⟩ := hst
  obtain ⟨hd1, hd2⟩ := hd
  clear hD
  go_enter Try.func68, Try.ntmps68
  go_wp2_with fail
  refine (RefDot_is p q c d s ix D HD.out _ (h.keep (below_alloc _ _)) (h'.keep (below_alloc _ _))).mono ?_
  rintro e1 w1 ⟨rfl, hb1⟩
  have A := (At7.new w _ 2 b e (.slice p s.length c) st sp md 89 rfl).keep hb1
  have hA0 := A.c0
  have hA1 := A.c1
  have hA2 := A.c2
  have hA3 := A.c3
  have hA4 := A.c4
  have hA5 := A.c5
  have hA6 := A.c6
  have hb := below_1 hb1
  clear hb1
  go_wp2
  go_ret2
  exact ⟨rfl, hb⟩

set_option maxHeartbeats 2000000 in
theorem RAt_1 (b e : Int) (p : Option Addr) (c : Nat) (s : List Int) (st sp md : Int) (q : Option Addr) (d : Nat) (ix : List Int) (D : Int) (hD : dotW s ix 0 = D) (w : World) (h : Ints w p s) (h' : Ints w q ix) (he : -1000000000000 ≤ e ∧ e ≤ 1000000000000) (hst : -1000000000000 ≤ st ∧ st ≤ 1000000000000) (hd : -1000000000000000000 ≤ D ∧ D ≤ 1000000000000000000)  :
    Calls Try.prog 68 #[.agg #[.int .i64 1, .int .i64 b, .int .i64 e, .slice p s.length c, .int .i64 st, .int .i64 sp, .int .i64 md], .slice q ix.length d] w fun e' w' => e' = .returned (.tuple #[.int .i64 0, .bool false]) ∧ Below w.heap.size w w' := by
  have HD := Lib.hid hD
  obtain ⟨he1, he2⟩ := he
  obtain ⟨hst1, hst2⟩ := hst
  obtain ⟨hd1, hd2⟩ := hd
  clear hD
  go_enter Try.func68, Try.ntmps68
  go_wp2_with fail
  refine (RefDot_is p q c d s ix D HD.out _ (h.keep (below_alloc _ _)) (h'.keep (below_alloc _ _))).mono ?_
  rintro e1 w1 ⟨rfl, hb1⟩
  have A := (At7.new w _ 1 b e (.slice p s.length c) st sp md 89 rfl).keep hb1
  have hA0 := A.c0
  have hA1 := A.c1
  have hA2 := A.c2
  have hA3 := A.c3
  have hA4 := A.c4
  have hA5 := A.c5
  have hA6 := A.c6
  have hb := below_1 hb1
  clear hb1
  go_wp2
  go_ret2
  exact ⟨rfl, hb⟩

set_option maxHeartbeats 2000000 in
theorem RAt_3n (b e : Int) (p : Option Addr) (c : Nat) (s : List Int) (st sp md : Int) (q : Option Addr) (d : Nat) (ix : List Int) (D : Int) (hD : dotW s ix 0 = D) (w : World) (h : Ints w p s) (h' : Ints w q ix) (he : -1000000000000 ≤ e ∧ e ≤ 1000000000000) (hst : -1000000000000 ≤ st ∧ st ≤ 1000000000000) (hd : -1000000000000000000 ≤ D ∧ D ≤ 1000000000000000000) (M X : Int) (hmd : 0 < md) (hmd2 : md ≤ 1000000000000) (hM : (st + D) % md = M) (hX : sp * M = X) (hXb : -2000000000000000000 ≤ X ∧ X ≤ 2000000000000000000) (hn : (st + D).tmod md < 0) :
    Calls Try.prog 68 #[.agg #[.int .i64 3, .int .i64 b, .int .i64 e, .slice p s.length c, .int .i64 st, .int .i64 sp, .int .i64 md], .slice q ix.length d] w fun e' w' => e' = .returned (.tuple #[.int .i64 (e + X), .bool true]) ∧ Below w.heap.size w w' := by
  have ht := tmod_neg_mod (k := st + D) hmd
  have hM0 := Int.emod_nonneg (st + D) (show md ≠ 0 by omega)
  have hM1 := Int.emod_lt_of_pos (st + D) hmd
  rw [hM] at hM0 hM1
  have e0 := ht.1 hn
  rw [hM] at e0
  have hr1 : -md ≤ (st + D).tmod md := by omega
  have HE := Lib.hid e0
  clear e0
  have HX := Lib.hid hX
  obtain ⟨hX1, hX2⟩ := hXb
  clear ht hM hX
  have HD := Lib.hid hD
  obtain ⟨he1, he2⟩ := he
  obtain ⟨hst1, hst2⟩ := hst
  obtain ⟨hd1, hd2⟩ := hd
  clear hD
  go_enter Try.func68, Try.ntmps68
  go_wp2_with fail
  refine (RefDot_is p q c d s ix D HD.out _ (h.keep (below_alloc _ _)) (h'.keep (below_alloc _ _))).mono ?_
  rintro e1 w1 ⟨rfl, hb1⟩
  have A := (At7.new w _ 3 b e (.slice p s.length c) st sp md 89 rfl).keep hb1
  have hA0 := A.c0
  have hA1 := A.c1
  have hA2 := A.c2
  have hA3 := A.c3
  have hA4 := A.c4
  have hA5 := A.c5
  have hA6 := A.c6
  have hb := below_1 hb1
  clear hb1
  go_wp2
  go_ret2
  refine ⟨ret_intb ?_ rfl, hb⟩
  rw [HE.out]
  try rw [wrap64_ok (x := M) (by omega) (by omega)]
  rw [HX.out, wrap64_ok (x := X) (by omega) (by omega), wrap64_ok (by omega) (by omega)]

set_option maxHeartbeats 2000000 in
theorem RAt_3p (b e : Int) (p : Option Addr) (c : Nat) (s : List Int) (st sp md : Int) (q : Option Addr) (d : Nat) (ix : List Int) (D : Int) (hD : dotW s ix 0 = D) (w : World) (h : Ints w p s) (h' : Ints w q ix) (he : -1000000000000 ≤ e ∧ e ≤ 1000000000000) (hst : -1000000000000 ≤ st ∧ st ≤ 1000000000000) (hd : -1000000000000000000 ≤ D ∧ D ≤ 1000000000000000000) (M X : Int) (hmd : 0 < md) (hmd2 : md ≤ 1000000000000) (hM : (st + D) % md = M) (hX : sp * M = X) (hXb : -2000000000000000000 ≤ X ∧ X ≤ 2000000000000000000) (hn : ¬ (st + D).tmod md < 0) :
    Calls Try.prog 68 #[.agg #[.int .i64 3, .int .i64 b, .int .i64 e, .slice p s.length c, .int .i64 st, .int .i64 sp, .int .i64 md], .slice q ix.length d] w fun e' w' => e' = .returned (.tuple #[.int .i64 (e + X), .bool true]) ∧ Below w.heap.size w w' := by
  have ht := tmod_neg_mod (k := st + D) hmd
  have hM0 := Int.emod_nonneg (st + D) (show md ≠ 0 by omega)
  have hM1 := Int.emod_lt_of_pos (st + D) hmd
  rw [hM] at hM0 hM1
  have e0 := ht.2 hn
  rw [hM] at e0
  have HE := Lib.hid e0
  have hr1 : (st + D).tmod md ≤ md := by omega
  clear e0
  have HX := Lib.hid hX
  obtain ⟨hX1, hX2⟩ := hXb
  clear ht hM hX
  have HD := Lib.hid hD
  obtain ⟨he1, he2⟩ := he
  obtain ⟨hst1, hst2⟩ := hst
  obtain ⟨hd1, hd2⟩ := hd
  clear hD
  go_enter Try.func68, Try.ntmps68
  go_wp2_with fail
  refine (RefDot_is p q c d s ix D HD.out _ (h.keep (below_alloc _ _)) (h'.keep (below_alloc _ _))).mono ?_
  rintro e1 w1 ⟨rfl, hb1⟩
  have A := (At7.new w _ 3 b e (.slice p s.length c) st sp md 89 rfl).keep hb1
  have hA0 := A.c0
  have hA1 := A.c1
  have hA2 := A.c2
  have hA3 := A.c3
  have hA4 := A.c4
  have hA5 := A.c5
  have hA6 := A.c6
  have hb := below_1 hb1
  clear hb1
  go_wp2
  go_ret2
  refine ⟨ret_intb ?_ rfl, hb⟩
  rw [HE.out, HX.out, wrap64_ok (x := X) (by omega) (by omega), wrap64_ok (by omega) (by omega)]

end Go.Proofs.Ythkfjdhakbjllaa
