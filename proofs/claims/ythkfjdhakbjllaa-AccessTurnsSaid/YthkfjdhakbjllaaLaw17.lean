/- The fixed results of layer 17 (access): awake, walked. No condition. -/
import Derived.Test.YthkfjdhakbjllaaAcc9
namespace Go.Proofs.Ythkfjdhakbjllaa
open Go.RowKit Go.Shelf
set_option linter.unusedVariables false
set_option linter.unusedSimpArgs false

theorem lit_row (w : World) (xs : List Int) (hx : xs.all (fun x => decide (-9223372036854775808 ≤ x ∧ x ≤ 9223372036854775807)) = true) (hs : xs.length ≤ 9223372036854775807) (e : TypeId) :
    Ints (w.alloc (.cells (xs.map (Value.int .i64)).toArray e)) (some ⟨w.heap.size, 0, none⟩) xs := Ints.lit w _ xs e rfl (i64_all hx) hs
theorem i64_list {xs : List Int} (h : xs.all (fun x => decide (-4000000000000000000 ≤ x ∧ x ≤ 4000000000000000000)) = true) : ∀ x ∈ xs, -4000000000000000000 ≤ x ∧ x ≤ 4000000000000000000 := by
  intro x hx
  have := List.all_eq_true.1 h x hx
  simpa using this
theorem i40_list {xs : List Int} (h : xs.all (fun x => decide (-1099511627776 ≤ x ∧ x ≤ 1099511627776)) = true) : ∀ x ∈ xs, -1099511627776 ≤ x ∧ x ≤ 1099511627776 := by
  intro x hx
  have := List.all_eq_true.1 h x hx
  simpa using this
theorem in_list {xs : List Int} {n : Int} (h : xs.all (fun x => decide (0 ≤ x ∧ x < n)) = true) : ∀ x ∈ xs, 0 ≤ x ∧ x < n := by
  intro x hx
  have := List.all_eq_true.1 h x hx
  simpa using this

theorem w17_direct (p : Option Addr) (c : Nat) (w : World) (h : Ints w p [2, 3]) :
    Calls Try.prog 69 #[.int .i64 1, .slice p 2 c] w fun e' w' => (∃ p' c', e' = .returned (.agg #[.int .i64 2, .int .i64 1, .int .i64 0, .slice p' 2 c', .int .i64 0, .int .i64 0, .int .i64 0]) ∧ Ints w' p' [3, 1]) ∧ Below w.heap.size w w' := by
  refine (Direct_any 1 p c [2, 3] w h).mono ?_
  have e : strideS [2, 3] = [3, 1] := by decide
  rw [e]
  rintro e' w' ⟨⟨p', c', he, hn⟩, hb⟩
  exact ⟨⟨p', c', he, hn.ints (i64_all (by decide)) (by simp)⟩, hb⟩
theorem w17_flip (p : Option Addr) (c : Nat) (w : World) (h : Ints w p [3, 1]) :
    Calls Try.prog 99 #[.agg #[.int .i64 2, .int .i64 1, .int .i64 0, .slice p 2 c, .int .i64 0, .int .i64 0, .int .i64 0], .int .i64 1, .int .i64 3] w fun e' w' => (∃ p' c', e' = .returned (.agg #[.int .i64 2, .int .i64 1, .int .i64 2, .slice p' 2 c', .int .i64 0, .int .i64 0, .int .i64 0]) ∧ Ints w' p' [3, -1]) ∧ Below w.heap.size w w' :=
  Flip_any 2 1 0 p c [3, 1] 0 0 0 1 3 2 w h (by decide) (by decide) (by decide) (by decide) (by decide) (i64_list (by decide)) (by decide) (by decide) (by decide) (by decide) (by decide)
theorem w17_at1 (p q : Option Addr) (c d : Nat) (w : World) (h : Ints w p [3, -1]) (h' : Ints w q [1, 0]) :
    Calls Try.prog 67 #[.agg #[.int .i64 2, .int .i64 1, .int .i64 2, .slice p 2 c, .int .i64 0, .int .i64 0, .int .i64 0], .slice q 2 d] w fun e' w' => e' = .returned (.tuple #[.int .i64 5, .bool true]) ∧ Below w.heap.size w w' :=
  AccAt_2 1 2 p c [3, -1] 0 0 0 q d [1, 0] 3 (by simp [dotW, wrap64]) w h h' (by decide) (by decide) (by decide) (by decide)
theorem w17_at2 (w : World) :
    Calls Try.prog 67 #[.agg #[.int .i64 1, .int .i64 0, .int .i64 0, .slice none 0 0, .int .i64 0, .int .i64 0, .int .i64 0], .slice none 0 0] w fun e' w' => e' = .returned (.tuple #[.int .i64 0, .bool false]) ∧ Below w.heap.size w w' :=
  AccAt_0 1 0 0 none 0 [] 0 0 0 none 0 [] 0 (by decide) w (Ints.nil _) (Ints.nil _) (by decide) (by decide) (by decide) (by decide) (by decide) (by decide)
theorem w17_permute (p q : Option Addr) (c d : Nat) (w : World) (h : Ints w p [3, 1]) (h' : Ints w q [1, 0]) :
    Calls Try.prog 72 #[.agg #[.int .i64 2, .int .i64 1, .int .i64 0, .slice p 2 c, .int .i64 0, .int .i64 0, .int .i64 0], .slice q 2 d, .int .i64 2] w fun e' w' => (∃ p' c', e' = .returned (.agg #[.int .i64 2, .int .i64 1, .int .i64 0, .slice p' 2 c', .int .i64 0, .int .i64 0, .int .i64 0]) ∧ Ints w' p' [1, 3]) ∧ Below w.heap.size w w' :=
  Permute_any 2 1 0 p c [3, 1] 0 0 0 q d [1, 0] 2 w h (by decide) (by decide) h' (by decide) (by decide) (by decide) (in_list (by decide)) (i40_list (by decide))
theorem w17_shift (p : Option Addr) (c : Nat) (w : World) (h : Ints w p [3, 1]) :
    Calls Try.prog 100 #[.agg #[.int .i64 2, .int .i64 1, .int .i64 0, .slice p 2 c, .int .i64 0, .int .i64 0, .int .i64 0], .int .i64 0, .int .i64 2] w fun e' w' => (∃ p' c', e' = .returned (.agg #[.int .i64 2, .int .i64 1, .int .i64 6, .slice p' 2 c', .int .i64 0, .int .i64 0, .int .i64 0]) ∧ Ints w' p' [3, 1]) ∧ Below w.heap.size w w' :=
  Shift_any 2 1 0 p c [3, 1] 0 0 0 0 2 6 w h (by decide) (by decide) (by decide) (i64_all (by decide)) (by decide) (by decide) (by decide) (by decide) (by decide)
theorem w17_at3 (p q : Option Addr) (c d : Nat) (w : World) (h : Ints w p [1]) (h' : Ints w q [0]) :
    Calls Try.prog 67 #[.agg #[.int .i64 3, .int .i64 0, .int .i64 5, .slice p 1 c, .int .i64 (-1), .int .i64 2, .int .i64 3], .slice q 1 d] w fun e' w' => e' = .returned (.tuple #[.int .i64 9, .bool true]) ∧ Below w.heap.size w w' :=
  AccAt_3 0 5 p c [1] (-1) 2 3 q d [0] 0 (by simp [dotW, wrap64]) w h h' (by decide) (by decide) (by decide) (by decide) 2 4 (by decide) (by decide) (by decide) ⟨by decide, by decide⟩
theorem w17_right (r : Nat) (b : Bool) (hr : r ≤ 16) (hb : ((2 : Int) == (r : Int)) = b) (p : Option Addr) (c : Nat) (w : World) (h : Ints w p [3, 1]) :
    Calls Try.prog 101 #[.agg #[.int .i64 2, .int .i64 1, .int .i64 0, .slice p 2 c, .int .i64 0, .int .i64 0, .int .i64 0], .int .i64 r] w fun e' w' => e' = .returned (.bool b) ∧ Below w.heap.size w w' :=
  AccRight_aff 1 0 p c [3, 1] r b w h (by decide) hr (by decide) (by decide) ⟨by decide, by decide⟩ ⟨by decide, by decide⟩ hb
theorem w17_r2 (p : Option Addr) (c : Nat) (w : World) (h : Ints w p [3, 1]) :
    Calls Try.prog 101 #[.agg #[.int .i64 2, .int .i64 1, .int .i64 0, .slice p 2 c, .int .i64 0, .int .i64 0, .int .i64 0], .int .i64 2] w fun e' w' => e' = .returned (.bool true) ∧ Below w.heap.size w w' := w17_right 2 true (by decide) (by decide) p c w h
theorem w17_r1 (p : Option Addr) (c : Nat) (w : World) (h : Ints w p [3, 1]) :
    Calls Try.prog 101 #[.agg #[.int .i64 2, .int .i64 1, .int .i64 0, .slice p 2 c, .int .i64 0, .int .i64 0, .int .i64 0], .int .i64 1] w fun e' w' => e' = .returned (.bool false) ∧ Below w.heap.size w w' := w17_right 1 false (by decide) (by decide) p c w h
theorem w17_same (p p' : Option Addr) (c c' : Nat) (w : World) (h : Ints w p [3, 1]) (h' : Ints w p' [3, 1]) :
    Calls Try.prog 102 #[.agg #[.int .i64 2, .int .i64 1, .int .i64 0, .slice p 2 c, .int .i64 0, .int .i64 0, .int .i64 0], .agg #[.int .i64 2, .int .i64 1, .int .i64 0, .slice p' 2 c', .int .i64 0, .int .i64 0, .int .i64 0]] w fun e' w' => e' = .returned (.bool true) ∧ Below w.heap.size w w' :=
  ASame_yes 2 1 0 p c [3, 1] 0 0 0 p' c' w h h'
theorem w17_notsame (p p' : Option Addr) (c c' : Nat) (w : World) (h : Ints w p [3, 1]) (h' : Ints w p' [3, -1]) :
    Calls Try.prog 102 #[.agg #[.int .i64 2, .int .i64 1, .int .i64 0, .slice p 2 c, .int .i64 0, .int .i64 0, .int .i64 0], .agg #[.int .i64 2, .int .i64 1, .int .i64 2, .slice p' 2 c', .int .i64 0, .int .i64 0, .int .i64 0]] w fun e' w' => e' = .returned (.bool false) ∧ Below w.heap.size w w' :=
  ASame_no 2 1 0 p c [3, 1] 0 0 0 2 1 2 [3, -1] 0 0 0 p' c' w h h' (by decide)

set_option maxRecDepth 100000 in
set_option maxHeartbeats 2000000 in
theorem awake17 (w : World) : Calls Try.prog 64 #[] w fun e w' => e = .returned (.bool true) ∧ Below w.heap.size w w' := by
  go_enter Try.func64, Try.ntmps64
  go_wp2_with fail
  refine (w17_direct _ _ _ (lit_row _ [2, 3] (by decide) (by simp) _)).mono ?_
  rintro e1 w1 ⟨⟨pa, ca, rfl, ia⟩, hb1⟩
  have hba := below_alloc w1 (.cells #[.int .i64 2, .int .i64 1, .int .i64 0, .slice pa 2 ca, .int .i64 0, .int .i64 0, .int .i64 0] 93)
  have A := At7.new w1 _ 2 1 0 (.slice pa 2 ca) 0 0 0 93 rfl
  have hb := below_t (below_1 hb1) hba
  have ia := ia.keep hba
  clear hb1 hba
  have hA0 := A.c0
  have hA1 := A.c1
  have hA2 := A.c2
  have hA3 := A.c3
  have hA4 := A.c4
  have hA5 := A.c5
  have hA6 := A.c6
  go_wp2_with fail
  clear hA0
  clear hA1
  clear hA2
  clear hA3
  clear hA4
  clear hA5
  clear hA6
  refine (w17_flip _ _ _ ia).mono ?_
  rintro e2 w2 ⟨⟨pb, cb, rfl, ib⟩, hb1⟩
  have hba := below_alloc w2 (.cells #[.int .i64 2, .int .i64 1, .int .i64 2, .slice pb 2 cb, .int .i64 0, .int .i64 0, .int .i64 0] 93)
  have B := At7.new w2 _ 2 1 2 (.slice pb 2 cb) 0 0 0 93 rfl
  have ib := ib.keep hba
  have hb1 := below_t hb1 hba
  clear hba
  have A := A.keep hb1
  have ia := ia.keep hb1
  have hb := below_t hb hb1
  clear hb1
  have hB0 := B.c0
  have hB1 := B.c1
  have hB2 := B.c2
  have hB3 := B.c3
  have hB4 := B.c4
  have hB5 := B.c5
  have hB6 := B.c6
  go_wp2_with fail
  clear hB0
  clear hB1
  clear hB2
  clear hB3
  clear hB4
  clear hB5
  clear hB6
  refine (w17_at1 _ _ _ _ _ (ib.keep (below_alloc _ _)) (Ints.lit _ _ [1, 0] _ (by simp) (i64_all (by decide)) (by simp))).mono ?_
  rintro e3 w3 ⟨rfl, hb1⟩
  have hb1 := below_1 hb1
  have A := A.keep hb1
  have B := B.keep hb1
  have ia := ia.keep hb1
  have ib := ib.keep hb1
  have hb := below_t hb hb1
  clear hb1
  go_wp2_with fail
  refine (w17_at2 _).mono ?_
  rintro e4 w4 ⟨rfl, hb1⟩
  have A := A.keep hb1
  have B := B.keep hb1
  have ia := ia.keep hb1
  have ib := ib.keep hb1
  have hb := below_t hb hb1
  clear hb1
  have hA0 := A.c0
  have hA1 := A.c1
  have hA2 := A.c2
  have hA3 := A.c3
  have hA4 := A.c4
  have hA5 := A.c5
  have hA6 := A.c6
  go_wp2_with fail
  clear hA0
  clear hA1
  clear hA2
  clear hA3
  clear hA4
  clear hA5
  clear hA6
  refine (w17_permute _ _ _ _ _ (ia.keep (below_alloc _ _)) (Ints.lit _ _ [1, 0] _ (by simp) (i64_all (by decide)) (by simp))).mono ?_
  rintro e5 w5 ⟨⟨pc, cc, rfl, ic⟩, hb1⟩
  have hba := below_alloc w5 (.cells #[.int .i64 2, .int .i64 1, .int .i64 0, .slice pc 2 cc, .int .i64 0, .int .i64 0, .int .i64 0] 93)
  have C := At7.new w5 _ 2 1 0 (.slice pc 2 cc) 0 0 0 93 rfl
  have ic := ic.keep hba
  have hb1 := below_t (below_1 hb1) hba
  clear hba
  have A := A.keep hb1
  have B := B.keep hb1
  have ia := ia.keep hb1
  have ib := ib.keep hb1
  have hb := below_t hb hb1
  clear hb1
  have hA0 := A.c0
  have hA1 := A.c1
  have hA2 := A.c2
  have hA3 := A.c3
  have hA4 := A.c4
  have hA5 := A.c5
  have hA6 := A.c6
  go_wp2_with fail
  clear hA0
  clear hA1
  clear hA2
  clear hA3
  clear hA4
  clear hA5
  clear hA6
  refine (w17_shift _ _ _ ia).mono ?_
  rintro e6 w6 ⟨⟨pd, cd, rfl, id'⟩, hb1⟩
  have hba := below_alloc w6 (.cells #[.int .i64 2, .int .i64 1, .int .i64 6, .slice pd 2 cd, .int .i64 0, .int .i64 0, .int .i64 0] 93)
  have D := At7.new w6 _ 2 1 6 (.slice pd 2 cd) 0 0 0 93 rfl
  have hb1 := below_t hb1 hba
  clear hba
  have A := A.keep hb1
  have B := B.keep hb1
  have C := C.keep hb1
  have ia := ia.keep hb1
  have ib := ib.keep hb1
  have ic := ic.keep hb1
  have hb := below_t hb hb1
  clear hb1
  go_wp2_with fail
  refine (w17_at3 _ _ _ _ _ ((Ints.lit _ _ [1] _ (by simp) (i64_all (by decide)) (by simp)).keep (below_alloc _ _)) (Ints.lit _ _ [0] _ (by simp) (i64_all (by decide)) (by simp))).mono ?_
  rintro e7 w7 ⟨rfl, hb1⟩
  have hb1 := below_2 hb1
  have A := A.keep hb1
  have B := B.keep hb1
  have C := C.keep hb1
  have D := D.keep hb1
  have ia := ia.keep hb1
  have ib := ib.keep hb1
  have ic := ic.keep hb1
  have hb := below_t hb hb1
  clear hb1
  have hx := A.c3
  go_wp2_with fail
  refine (RefEqual_is [3, 1] [3, 1] true (by decide) _ _ _ _ _ (ia.keep (below_alloc _ _)) (Ints.lit _ _ [3, 1] _ (by simp) (i64_all (by decide)) (by simp))).mono ?_
  rintro e8 w8 ⟨rfl, hb1⟩
  have hb1 := below_1 hb1
  have A := A.keep hb1
  have B := B.keep hb1
  have C := C.keep hb1
  have D := D.keep hb1
  have ia := ia.keep hb1
  have ib := ib.keep hb1
  have ic := ic.keep hb1
  have hb := below_t hb hb1
  clear hb1
  clear hx
  have hx := B.c2
  have hy := B.c3
  go_wp2_with fail
  refine (RefEqual_is [3, -1] [3, -1] true (by decide) _ _ _ _ _ (ib.keep (below_alloc _ _)) (Ints.lit _ _ [3, -1] _ (by simp) (i64_all (by decide)) (by simp))).mono ?_
  rintro e9 w9 ⟨rfl, hb1⟩
  have hb1 := below_1 hb1
  have A := A.keep hb1
  have B := B.keep hb1
  have C := C.keep hb1
  have D := D.keep hb1
  have ia := ia.keep hb1
  have ib := ib.keep hb1
  have ic := ic.keep hb1
  have hb := below_t hb hb1
  clear hb1
  clear hx hy
  have hx := C.c3
  go_wp2_with fail
  refine (RefEqual_is [1, 3] [1, 3] true (by decide) _ _ _ _ _ (ic.keep (below_alloc _ _)) (Ints.lit _ _ [1, 3] _ (by simp) (i64_all (by decide)) (by simp))).mono ?_
  rintro e10 w10 ⟨rfl, hb1⟩
  have hb1 := below_1 hb1
  have A := A.keep hb1
  have B := B.keep hb1
  have D := D.keep hb1
  have ia := ia.keep hb1
  have ib := ib.keep hb1
  have hb := below_t hb hb1
  clear hb1
  clear hx
  have hx := D.c2
  have hA0 := A.c0
  have hA1 := A.c1
  have hA2 := A.c2
  have hA3 := A.c3
  have hA4 := A.c4
  have hA5 := A.c5
  have hA6 := A.c6
  go_wp2_with fail
  clear hA0
  clear hA1
  clear hA2
  clear hA3
  clear hA4
  clear hA5
  clear hA6
  clear hx
  refine (w17_r2 _ _ _ ia).mono ?_
  rintro e11 w11 ⟨rfl, hb1⟩
  have A := A.keep hb1
  have B := B.keep hb1
  have ia := ia.keep hb1
  have ib := ib.keep hb1
  have hb := below_t hb hb1
  clear hb1
  have hA0 := A.c0
  have hA1 := A.c1
  have hA2 := A.c2
  have hA3 := A.c3
  have hA4 := A.c4
  have hA5 := A.c5
  have hA6 := A.c6
  go_wp2_with fail
  clear hA0
  clear hA1
  clear hA2
  clear hA3
  clear hA4
  clear hA5
  clear hA6
  refine (w17_r1 _ _ _ ia).mono ?_
  rintro e12 w12 ⟨rfl, hb1⟩
  have A := A.keep hb1
  have B := B.keep hb1
  have ia := ia.keep hb1
  have ib := ib.keep hb1
  have hb := below_t hb hb1
  clear hb1
  have hA0 := A.c0
  have hA1 := A.c1
  have hA2 := A.c2
  have hA3 := A.c3
  have hA4 := A.c4
  have hA5 := A.c5
  have hA6 := A.c6
  go_wp2_with fail
  clear hA0
  clear hA1
  clear hA2
  clear hA3
  clear hA4
  clear hA5
  clear hA6
  refine (w17_same _ _ _ _ _ ia ia).mono ?_
  rintro e13 w13 ⟨rfl, hb1⟩
  have A := A.keep hb1
  have B := B.keep hb1
  have ia := ia.keep hb1
  have ib := ib.keep hb1
  have hb := below_t hb hb1
  clear hb1
  have hA0 := A.c0
  have hA1 := A.c1
  have hA2 := A.c2
  have hA3 := A.c3
  have hA4 := A.c4
  have hA5 := A.c5
  have hA6 := A.c6
  have hB0 := B.c0
  have hB1 := B.c1
  have hB2 := B.c2
  have hB3 := B.c3
  have hB4 := B.c4
  have hB5 := B.c5
  have hB6 := B.c6
  go_wp2_with fail
  clear hA0
  clear hA1
  clear hA2
  clear hA3
  clear hA4
  clear hA5
  clear hA6
  clear hB0
  clear hB1
  clear hB2
  clear hB3
  clear hB4
  clear hB5
  clear hB6
  refine (w17_notsame _ _ _ _ _ ia ib).mono ?_
  rintro e14 w14 ⟨rfl, hb1⟩
  have hb := below_t hb hb1
  clear hb1
  go_wp2_with fail
  go_ret
  exact ⟨rfl, hb⟩
end Go.Proofs.Ythkfjdhakbjllaa
