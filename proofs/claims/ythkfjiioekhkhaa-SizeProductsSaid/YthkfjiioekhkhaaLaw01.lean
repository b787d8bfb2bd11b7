/- The laws of layer 1 (size), walked: each returns true at all arguments and writes nothing that was there. -/
import Derived.Test.YthkfjiioekhkhaaSizeRef
import Derived.Test.YthkfjiioekhkhaaSize2
namespace Go.Proofs.Ythkfjiioekhkhaa
open Go.RowKit Go.Shelf

theorem Product_is (xs : List Int) (p q : Int) (hr : prodR xs = (p, q)) (a : Option Addr) (c : Nat) (w : World) (h : Ints w a xs) :
    Calls Try.prog 25 #[.slice a xs.length c] w fun e w' => e = .returned (.tuple #[.int .i64 p, .int .i64 q]) ∧ w = w' := by
  have := Product_any a c xs w h
  rw [hr] at this
  exact this
theorem Sum_is (xs : List Int) (p q : Int) (hr : sumR xs = (p, q)) (a : Option Addr) (c : Nat) (w : World) (h : Ints w a xs) :
    Calls Try.prog 27 #[.slice a xs.length c] w fun e w' => e = .returned (.tuple #[.int .i64 p, .int .i64 q]) ∧ w = w' := by
  have := Sum_any a c xs w h
  rw [hr] at this
  exact this
theorem Mul_is (a b l p : Int) (q : Bool) (hr : mulS a b l = (p, q)) (hb : I64 b) (hl : I64 l) (w : World) :
    Calls Try.prog 29 #[.int .i64 a, .int .i64 b, .int .i64 l] w fun e w' => e = .returned (.tuple #[.int .i64 p, .bool q]) ∧ w = w' := by
  have := Mul_any a b l w hb hl
  rw [hr] at this
  exact this
theorem Dimension_is (v p q : Int) (hr : dimS v = (p, q)) (w : World) :
    Calls Try.prog 30 #[.int .i64 v] w fun e w' => e = .returned (.tuple #[.int .i64 p, .int .i64 q]) ∧ w = w' := by
  have := Dimension_any v w
  rw [hr] at this
  exact this
theorem Magnitude_is (v p q : Int) (hr : magS v = (p, q)) (w : World) :
    Calls Try.prog 32 #[.int .i64 v] w fun e w' => e = .returned (.tuple #[.int .i64 p, .int .i64 q]) ∧ w = w' := by
  have := Magnitude_any v w
  rw [hr] at this
  exact this
theorem Mod_is (k n r : Int) (hr : modS k n = r) (hk : I64 k) (hn : I64 n) (w : World) :
    Calls Try.prog 34 #[.int .i64 k, .int .i64 n] w fun e w' => e = .returned (.int .i64 r) ∧ w = w' := by
  have := Mod_any k n w hk hn
  rw [hr] at this
  exact this

theorem i64_all {xs : List Int} (h : xs.all (fun x => decide (-9223372036854775808 ≤ x ∧ x ≤ 9223372036854775807)) = true) : ∀ x ∈ xs, I64 x := by
  intro x hx
  have := List.all_eq_true.1 h x hx
  simpa [I64] using this

set_option maxRecDepth 100000 in
theorem awake01 (w : World) : Calls Try.prog 24 #[] w fun e w' => e = .returned (.bool true) ∧ Below w.heap.size w w' := by
  go_enter Try.func24, Try.ntmps24
  go_wp2_with fail
  refine (Product_is [256, 256] 65536 0 (by decide) _ _ _ (Ints.lit _ _ [256, 256] _ (by simp) (i64_all (by decide)) (by simp))).mono ?_
  rintro e w' ⟨rfl, rfl⟩
  go_wp2_with fail
  refine (Product_is [256, 256, 2] 0 7 (by decide) _ _ _ (Ints.lit _ _ [256, 256, 2] _ (by simp) (i64_all (by decide)) (by simp))).mono ?_
  rintro e w' ⟨rfl, rfl⟩
  go_wp2_with fail
  refine (Product_is [0, 65537] 0 7 (by decide) _ _ _ (Ints.lit _ _ [0, 65537] _ (by simp) (i64_all (by decide)) (by simp))).mono ?_
  rintro e w' ⟨rfl, rfl⟩
  go_wp2_with fail
  refine (Sum_is [3, 4] 7 0 (by decide) _ _ _ (Ints.lit _ _ [3, 4] _ (by simp) (i64_all (by decide)) (by simp))).mono ?_
  rintro e w' ⟨rfl, rfl⟩
  go_wp2_with fail
  refine (Mul_is 6 7 42 42 true (by decide) ⟨by omega, by omega⟩ ⟨by omega, by omega⟩ _).mono ?_
  rintro e w' ⟨rfl, rfl⟩
  go_wp2_with fail
  refine (Mul_is 6 7 41 0 false (by decide) ⟨by omega, by omega⟩ ⟨by omega, by omega⟩ _).mono ?_
  rintro e w' ⟨rfl, rfl⟩
  go_wp2_with fail
  refine (Dimension_is 9 9 0 (by decide) _).mono ?_
  rintro e w' ⟨rfl, rfl⟩
  go_wp2_with fail
  refine (Magnitude_is (-9) 9 0 (by decide) _).mono ?_
  rintro e w' ⟨rfl, rfl⟩
  go_wp2_with fail
  refine (Mod_is (-1) 5 4 (by decide) ⟨by omega, by omega⟩ ⟨by omega, by omega⟩ _).mono ?_
  rintro e w' ⟨rfl, rfl⟩
  go_wp2_with fail
  go_ret
  refine ⟨rfl, ?_⟩
  go_grown

theorem SizeProducts_law (a : Option Addr) (c : Nat) (xs : List Int) (w : World) (h : Ints w a xs) :
    Calls Try.prog 7 #[.slice a xs.length c] w fun e w' => e = .returned (.bool true) ∧ Below w.heap.size w w' := by
  have hn := h.small
  by_cases hl : 1000 < xs.length
  · go_enter Try.func7, Try.ntmps7
    go_wp2_with fail
    refine (awake01 _).mono ?_
    rintro e w' ⟨rfl, hb1⟩
    go_wp2_with fail
    refine (awake01 _).mono ?_
    rintro e w' ⟨rfl, hb2⟩
    go_wp2_with fail
    go_ret
    exact ⟨rfl, hb1.trans (hb2.mono hb1.size)⟩
  · go_enter Try.func7, Try.ntmps7
    go_wp2_with fail
    refine (awake01 _).mono ?_
    rintro e w' ⟨rfl, hb1⟩
    go_wp2_with fail
    refine (Product_any _ _ _ _ (h.keep hb1)).mono ?_
    rintro e w' ⟨rfl, rfl⟩
    go_wp2_with fail
    refine (RefProduct_any _ _ _ _ (h.keep hb1)).mono ?_
    rintro e w' ⟨rfl, rfl⟩
    go_wp2_with fail
    go_ret
    exact ⟨rfl, hb1⟩

theorem SizeSums_law (a : Option Addr) (c : Nat) (xs : List Int) (w : World) (h : Ints w a xs) :
    Calls Try.prog 8 #[.slice a xs.length c] w fun e w' => e = .returned (.bool true) ∧ Below w.heap.size w w' := by
  have hn := h.small
  by_cases hl : 1000 < xs.length
  · go_enter Try.func8, Try.ntmps8
    go_wp2_with fail
    refine (awake01 _).mono ?_
    rintro e w' ⟨rfl, hb1⟩
    go_wp2_with fail
    refine (awake01 _).mono ?_
    rintro e w' ⟨rfl, hb2⟩
    go_wp2_with fail
    go_ret
    exact ⟨rfl, hb1.trans (hb2.mono hb1.size)⟩
  · go_enter Try.func8, Try.ntmps8
    go_wp2_with fail
    refine (awake01 _).mono ?_
    rintro e w' ⟨rfl, hb1⟩
    go_wp2_with fail
    refine (Sum_any _ _ _ _ (h.keep hb1)).mono ?_
    rintro e w' ⟨rfl, rfl⟩
    go_wp2_with fail
    refine (RefSum_any _ _ _ _ (h.keep hb1)).mono ?_
    rintro e w' ⟨rfl, rfl⟩
    go_wp2_with fail
    go_ret
    exact ⟨rfl, hb1⟩

theorem SizeNumbers_law (v : Int) (w : World) :
    Calls Try.prog 10 #[.int .i64 v] w fun e w' => e = .returned (.bool true) ∧ Below w.heap.size w w' := by
  go_enter Try.func10, Try.ntmps10
  go_wp2_with fail
  refine (awake01 _).mono ?_
  rintro e w' ⟨rfl, hb1⟩
  go_wp2_with fail
  refine (Dimension_any _ _).mono ?_
  rintro e w' ⟨rfl, rfl⟩
  go_wp2_with fail
  refine (RefDimension_any _ _).mono ?_
  rintro e w' ⟨rfl, rfl⟩
  go_wp2_with fail
  refine (Magnitude_any _ _).mono ?_
  rintro e w' ⟨rfl, rfl⟩
  go_wp2_with fail
  refine (RefMagnitude_any _ _).mono ?_
  rintro e w' ⟨rfl, rfl⟩
  go_wp2_with fail
  go_ret
  exact ⟨rfl, hb1⟩
end Go.Proofs.Ythkfjiioekhkhaa
