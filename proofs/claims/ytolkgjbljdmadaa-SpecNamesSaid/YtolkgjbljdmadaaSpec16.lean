/- The fixed results of layer 12 (spec): awake, walked. No condition. -/
import Derived.Test.YtolkgjbljdmadaaSpec15
namespace Go.Proofs.Ytolkgjbljdmadaa
open Go.RowKit Go.Shelf
set_option linter.unusedVariables false
set_option linter.unusedSimpArgs false

theorem lit_row (w : World) (xs : List Int) (hx : xs.all (fun x => decide (-9223372036854775808 ≤ x ∧ x ≤ 9223372036854775807)) = true) (hs : xs.length ≤ 9223372036854775807) (e : TypeId) :
    Ints (w.alloc (.cells (xs.map (Value.int .i64)).toArray e)) (some ⟨w.heap.size, 0, none⟩) xs := Ints.lit w _ xs e rfl (i64_all hx) hs

theorem w12_p1 (p : Option Addr) (c : Nat) (w : World) (h : Ints w p [0, 0]) :
    Calls Try.prog 12 #[.agg #[.slice p 2 c, .bool false], .int .i64 2] w fun e w' => (∃ q c', e = .returned (.tuple #[.slice q 2 c', .int .i64 0]) ∧ Ints w' q [0, 0]) ∧ Below w.heap.size w w' :=
  Perm_yes p c [0, 0] false w h (by decide) (by decide) (.inr (by decide))
theorem w12_p2 (p : Option Addr) (c : Nat) (w : World) (h : Ints w p [1, 1]) :
    Calls Try.prog 12 #[.agg #[.slice p 2 c, .bool false], .int .i64 2] w fun e w' => e = .returned (.tuple #[.slice none 0 0, .int .i64 6]) ∧ Below w.heap.size w w' :=
  Perm_gap p c [1, 1] false w h (by decide) (by decide) (by decide) (by decide)
theorem w12_d1 (p : Option Addr) (c : Nat) (w : World) (h : Ints w p [2, 3]) :
    Calls Try.prog 15 #[.agg #[.slice p 2 c, .bool false]] w fun e w' => (∃ q c', e = .returned (.tuple #[.slice q 2 c', .int .i64 0]) ∧ Ints w' q [2, 3]) ∧ Below w.heap.size w w' :=
  Dims_yes p c [2, 3] false w h (by decide) (by decide)
theorem w12_d2 (p : Option Addr) (c : Nat) (w : World) (h : Ints w p [70000, -1]) :
    Calls Try.prog 15 #[.agg #[.slice p 2 c, .bool false]] w fun e w' => e = .returned (.tuple #[.slice none 0 0, .int .i64 6]) ∧ Below w.heap.size w w' :=
  Dims_neg p c [70000, -1] false w h (by decide)
theorem w12_one (p : Option Addr) (c : Nat) (w : World) (h : Ints w p [7]) :
    Calls Try.prog 19 #[.agg #[.slice p 1 c, .bool false]] w fun e w' => e = .returned (.tuple #[.int .i64 7, .int .i64 0]) ∧ Below w.heap.size w w' :=
  One_yes p c 7 false w h
theorem w12_ex (p : Option Addr) (c : Nat) (w : World) :
    Calls Try.prog 18 #[.agg #[.slice p 1 c, .bool false], .int .i64 2] w fun e w' => e = .returned (.tuple #[.slice none 0 0, .int .i64 5]) ∧ Below w.heap.size w w' :=
  Exactly_no p c [7] false 2 w (by decide)
theorem w12_lit (pn : Option Addr) (cn : Nat) (s : ByteArray) (w : World) (h : Ints w pn [5]) :
    Calls Try.prog 40 #[.pointer none, .agg #[.int .i64 1, .int .i64 0, .int .i64 (-1), .string s, .slice pn 1 cn, .slice none 0 0]] w fun e w' =>
      (∃ q c', e = .returned (.tuple #[.agg #[.slice q 1 c', .bool true], .int .i64 0]) ∧ Ints w' q [5]) ∧ Below w.heap.size w w' :=
  Read_lit none s 0 (-1) pn none cn 0 0 [5] true (by decide) w h (by decide)
theorem w12_name (s : ByteArray) (w : World) :
    Calls Try.prog 40 #[.pointer none, .agg #[.int .i64 2, .int .i64 0, .int .i64 (-1), .string s, .slice none 0 0, .slice none 0 0]] w fun e w' =>
      e = .returned (.tuple #[.agg #[.slice none 0 0, .bool false], .int .i64 2]) ∧ Below w.heap.size w w' :=
  Read_name s 2 0 (-1) none none 0 0 0 0 (by decide) w

set_option maxRecDepth 100000 in
set_option maxHeartbeats 2000000 in
theorem awake12 (w : World) : Calls Try.prog 11 #[] w fun e w' => e = .returned (.bool true) ∧ Below w.heap.size w w' := by
  go_enter Try.func11, Try.ntmps11
  go_wp2_with fail
  refine (w12_p1 _ _ _ (lit_row _ [0, 0] (by decide) (by simp) _)).mono ?_
  rintro e1 w1 ⟨⟨pa, ca, rfl, ia⟩, hb1⟩
  have hb := below_1 hb1
  clear hb1
  go_wp2_with fail
  refine (w12_p2 _ _ _ (lit_row _ [1, 1] (by decide) (by simp) _)).mono ?_
  rintro e2 w2 ⟨rfl, hb1⟩
  have hb1 := below_1 hb1
  have ia := ia.keep hb1
  have hb := below_t hb hb1
  clear hb1
  go_wp2_with fail
  refine (w12_d1 _ _ _ (lit_row _ [2, 3] (by decide) (by simp) _)).mono ?_
  rintro e3 w3 ⟨⟨pd, cd, rfl, id'⟩, hb1⟩
  have hb1 := below_1 hb1
  have ia := ia.keep hb1
  have hb := below_t hb hb1
  clear hb1
  go_wp2_with fail
  refine (w12_d2 _ _ _ (lit_row _ [70000, -1] (by decide) (by simp) _)).mono ?_
  rintro e4 w4 ⟨rfl, hb1⟩
  have hb1 := below_1 hb1
  have ia := ia.keep hb1
  have id' := id'.keep hb1
  have hb := below_t hb hb1
  clear hb1
  go_wp2_with fail
  refine (w12_one _ _ _ (lit_row _ [7] (by decide) (by simp) _)).mono ?_
  rintro e5 w5 ⟨rfl, hb1⟩
  have hb1 := below_1 hb1
  have ia := ia.keep hb1
  have id' := id'.keep hb1
  have hb := below_t hb hb1
  clear hb1
  go_wp2_with fail
  refine (w12_ex _ _ _).mono ?_
  rintro e6 w6 ⟨rfl, hb1⟩
  have hb1 := below_1 hb1
  have ia := ia.keep hb1
  have id' := id'.keep hb1
  have hb := below_t hb hb1
  clear hb1
  go_wp2_with fail
  refine (w12_lit _ _ _ _ (lit_row _ [5] (by decide) (by simp) _)).mono ?_
  rintro e7 w7 ⟨⟨pl, cl, rfl, il⟩, hb1⟩
  have hb1 := below_1 hb1
  have ia := ia.keep hb1
  have id' := id'.keep hb1
  have hb := below_t hb hb1
  clear hb1
  have hba := below_alloc w7 (.cells #[.slice pl 1 cl, .bool true] 30)
  have S := Sp2.new w7 _ (.slice pl 1 cl) true 30 rfl
  have ia := ia.keep hba
  have id' := id'.keep hba
  have hb := below_t hb hba
  clear hba
  go_wp2_with fail
  refine (w12_name _ _).mono ?_
  rintro e8 w8 ⟨rfl, hb1⟩
  have S := S.keep hb1
  have ia := ia.keep hb1
  have id' := id'.keep hb1
  have hb := below_t hb hb1
  clear hb1
  have hba := below_alloc w8 (.cells #[.slice none 0 0, .bool false] 30)
  have S := S.keep hba
  have ia := ia.keep hba
  have id' := id'.keep hba
  have hb := below_t hb hba
  clear hba
  go_wp2_with fail
  refine (RefEqual_is [0, 0] [0, 0] true (by decide) _ _ _ _ _ (ia.keep (below_alloc _ _)) (Ints.lit _ _ [0, 0] _ (by simp) (i64_all (by decide)) (by simp))).mono ?_
  rintro e9 w9 ⟨rfl, hb1⟩
  have hb1 := below_1 hb1
  have S := S.keep hb1
  have id' := id'.keep hb1
  have hb := below_t hb hb1
  clear hb1
  go_wp2_with fail
  refine (RefEqual_is [2, 3] [2, 3] true (by decide) _ _ _ _ _ (id'.keep (below_alloc _ _)) (Ints.lit _ _ [2, 3] _ (by simp) (i64_all (by decide)) (by simp))).mono ?_
  rintro e10 w10 ⟨rfl, hb1⟩
  have hb1 := below_1 hb1
  have S := S.keep hb1
  have hb := below_t hb hb1
  clear hb1
  have q0 := S.c0
  have q1 := S.c1
  go_wp2_with fail
  go_ret
  exact ⟨rfl, hb⟩
end Go.Proofs.Ytolkgjbljdmadaa
