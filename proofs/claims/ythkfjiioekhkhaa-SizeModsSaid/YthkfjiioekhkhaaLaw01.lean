/- The laws of layer 1 (size), walked: each returns true at all arguments and writes nothing that was there. -/
import Derived.Test.YthkfjiioekhkhaaSizeRef
import Derived.Test.YthkfjiioekhkhaaSize2
namespace Go.Proofs.Ythkfjiioekhkhaa
open Go.RowKit Go.Shelf

theorem Product_is (xs : List Int) (p q : Int) (hr : prodR xs = (p, q)) (a : Option Addr) (c : Nat) (w : World) (h : Ints w a xs) :
    Calls Try.prog 25 #[.slice a xs.length c] w fun e w' => e = .returned (.tuple #[.int .i64 p, .int .i64 q]) ∧ w = w' := by
  have := Product_any a c xs w h
  rw [hr] at this
  exact this
theorem Sum_is (xs : List Int) (p q : Int) (hr : sumR xs = (p, q)) (a : Option Addr) (c : Nat) (w : World) (h : Ints w a xs) :
    Calls Try.prog 27 #[.slice a xs.length c] w fun e w' => e = .returned (.tuple #[.int .i64 p, .int .i64 q]) ∧ w = w' := by
  have := Sum_any a c xs w h
  rw [hr] at this
  exact this
theorem Mul_is (a b l p : Int) (q : Bool) (hr : mulS a b l = (p, q)) (hb : I64 b) (hl : I64 l) (w : World) :
    Calls Try.prog 29 #[.int .i64 a, .int .i64 b, .int .i64 l] w fun e w' => e = .returned (.tuple #[.int .i64 p, .bool q]) ∧ w = w' := by
  have := Mul_any a b l w hb hl
  rw [hr] at this
  exact this
theorem Dimension_is (v p q : Int) (hr : dimS v = (p, q)) (w : World) :
    Calls Try.prog 30 #[.int .i64 v] w fun e w' => e = .returned (.tuple #[.int .i64 p, .int .i64 q]) ∧ w = w' := by
  have := Dimension_any v w
  rw [hr] at this
  exact this
theorem Magnitude_is (v p q : Int) (hr : magS v = (p, q)) (w : World) :
    Calls Try.prog 32 #[.int .i64 v] w fun e w' => e = .returned (.tuple #[.int .i64 p, .int .i64 q]) ∧ w = w' := by
  have := Magnitude_any v w
  rw [hr] at this
  exact this
theorem Mod_is (k n r : Int) (hr : modS k n = r) (hk : I64 k) (hn : I64 n) (w : World) :
    Calls Try.prog 34 #[.int .i64 k, .int .i64 n] w fun e w' => e = .returned (.int .i64 r) ∧ w = w' := by
  have := Mod_any k n w hk hn
  rw [hr] at this
  exact this

theorem i64_all {xs : List Int} (h : xs.all (fun x => decide (-9223372036854775808 ≤ x ∧ x ≤ 9223372036854775807)) = true) : ∀ x ∈ xs, I64 x := by
  intro x hx
  have := List.all_eq_true.1 h x hx
  simpa [I64] using this

set_option maxRecDepth 100000 in
theorem awake01 (w : World) : Calls Try.prog 24 #[] w fun e w' => e = .returned (.bool true) ∧ Below w.heap.size w w' := by
  go_enter Try.func24, Try.ntmps24
  go_wp2_with fail
  refine (Product_is [256, 256] 65536 0 (by decide) _ _ _ (Ints.lit _ _ [256, 256] _ (by simp) (i64_all (by decide)) (by simp))).mono ?_
  rintro e w' ⟨rfl, rfl⟩
  go_wp2_with fail
  refine (Product_is [256, 256, 2] 0 7 (by decide) _ _ _ (Ints.lit _ _ [256, 256, 2] _ (by simp) (i64_all (by decide)) (by simp))).mono ?_
  rintro e w' ⟨rfl, rfl⟩
  go_wp2_with fail
  refine (Product_is [0, 65537] 0 7 (by decide) _ _ _ (Ints.lit _ _ [0, 65537] _ (by simp) (i64_all (by decide)) (by simp))).mono ?_
  rintro e w' ⟨rfl, rfl⟩
  go_wp2_with fail
  refine (Sum_is [3, 4] 7 0 (by decide) _ _ _ (Ints.lit _ _ [3, 4] _ (by simp) (i64_all (by decide)) (by simp))).mono ?_
  rintro e w' ⟨rfl, rfl⟩
  go_wp2_with fail
  refine (Mul_is 6 7 42 42 true (by decide) ⟨by omega, by omega⟩ ⟨by omega, by omega⟩ _).mono ?_
  rintro e w' ⟨rfl, rfl⟩
  go_wp2_with fail
  refine (Mul_is 6 7 41 0 false (by decide) ⟨by omega, by omega⟩ ⟨by omega, by omega⟩ _).mono ?_
  rintro e w' ⟨rfl, rfl⟩
  go_wp2_with fail
  refine (Dimension_is 9 9 0 (by decide) _).mono ?_
  rintro e w' ⟨rfl, rfl⟩
  go_wp2_with fail
  refine (Magnitude_is (-9) 9 0 (by decide) _).mono ?_
  rintro e w' ⟨rfl, rfl⟩
  go_wp2_with fail
  refine (Mod_is (-1) 5 4 (by decide) ⟨by omega, by omega⟩ ⟨by omega, by omega⟩ _).mono ?_
  rintro e w' ⟨rfl, rfl⟩
  go_wp2_with fail
  go_ret
  refine ⟨rfl, ?_⟩
  go_grown

theorem SizeProducts_law (a : Option Addr) (c : Nat) (xs : List Int) (w : World) (h : Ints w a xs) :
    Calls Try.prog 7 #[.slice a xs.length c] w fun e w' => e = .returned (.bool true) ∧ Below w.heap.size w w' := by
  have hn := h.small
  by_cases hl : 1000 < xs.length
  · go_enter Try.func7, Try.ntmps7
    go_wp2_with fail
    refine (awake01 _).mono ?_
    rintro e w' ⟨rfl, hb1⟩
    go_wp2_with fail
    refine (awake01 _).mono ?_
    rintro e w' ⟨rfl, hb2⟩
    go_wp2_with fail
    go_ret
    exact ⟨rfl, hb1.trans (hb2.mono hb1.size)⟩
  · go_enter Try.func7, Try.ntmps7
    go_wp2_with fail
    refine (awake01 _).mono ?_
    rintro e w' ⟨rfl, hb1⟩
    go_wp2_with fail
    refine (Product_any _ _ _ _ (h.keep hb1)).mono ?_
    rintro e w' ⟨rfl, rfl⟩
    go_wp2_with fail
    refine (RefProduct_any _ _ _ _ (h.keep hb1)).mono ?_
    rintro e w' ⟨rfl, rfl⟩
    go_wp2_with fail
    go_ret
    exact ⟨rfl, hb1⟩

theorem SizeSums_law (a : Option Addr) (c : Nat) (xs : List Int) (w : World) (h : Ints w a xs) :
    Calls Try.prog 8 #[.slice a xs.length c] w fun e w' => e = .returned (.bool true) ∧ Below w.heap.size w w' := by
  have hn := h.small
  by_cases hl : 1000 < xs.length
  · go_enter Try.func8, Try.ntmps8
    go_wp2_with fail
    refine (awake01 _).mono ?_
    rintro e w' ⟨rfl, hb1⟩
    go_wp2_with fail
    refine (awake01 _).mono ?_
    rintro e w' ⟨rfl, hb2⟩
    go_wp2_with fail
    go_ret
    exact ⟨rfl, hb1.trans (hb2.mono hb1.size)⟩
  · go_enter Try.func8, Try.ntmps8
    go_wp2_with fail
    refine (awake01 _).mono ?_
    rintro e w' ⟨rfl, hb1⟩
    go_wp2_with fail
    refine (Sum_any _ _ _ _ (h.keep hb1)).mono ?_
    rintro e w' ⟨rfl, rfl⟩
    go_wp2_with fail
    refine (RefSum_any _ _ _ _ (h.keep hb1)).mono ?_
    rintro e w' ⟨rfl, rfl⟩
    go_wp2_with fail
    go_ret
    exact ⟨rfl, hb1⟩

theorem SizeNumbers_law (v : Int) (w : World) (_hv : I64 v) :
    Calls Try.prog 10 #[.int .i64 v] w fun e w' => e = .returned (.bool true) ∧ Below w.heap.size w w' := by
  go_enter Try.func10, Try.ntmps10
  go_wp2_with fail
  refine (awake01 _).mono ?_
  rintro e w' ⟨rfl, hb1⟩
  go_wp2_with fail
  refine (Dimension_any _ _).mono ?_
  rintro e w' ⟨rfl, rfl⟩
  go_wp2_with fail
  refine (RefDimension_any _ _).mono ?_
  rintro e w' ⟨rfl, rfl⟩
  go_wp2_with fail
  refine (Magnitude_any _ _).mono ?_
  rintro e w' ⟨rfl, rfl⟩
  go_wp2_with fail
  refine (RefMagnitude_any _ _).mono ?_
  rintro e w' ⟨rfl, rfl⟩
  go_wp2_with fail
  go_ret
  exact ⟨rfl, hb1⟩
theorem mulS_comm (a b l : Int) : mulS a b l = mulS b a l := by
  have key : ∀ a b : Int, 0 ≤ a → 0 < b → a ≤ l → b ≤ l → (l / b < a ↔ l < a * b) := by
    intro a b _ hb _ _
    have := Int.le_ediv_iff_mul_le (a := a) (b := l) hb
    omega
  unfold mulS
  by_cases h1 : a < 0
  · rw [if_pos (by omega), if_pos (by omega)]
  by_cases h2 : b < 0
  · rw [if_pos (by omega), if_pos (by omega)]
  by_cases h3 : l < a
  · rw [if_pos (by omega), if_pos (by omega)]
  by_cases h4 : l < b
  · rw [if_pos (by omega), if_pos (by omega)]
  have q1 : 0 ≤ l / b := Int.ediv_nonneg (by omega) (by omega)
  have q2 : 0 ≤ l / a := Int.ediv_nonneg (by omega) (by omega)
  by_cases ha : a = 0
  · subst ha
    rw [if_neg (by omega), if_neg (by omega)]
    simp
  by_cases hb : b = 0
  · subst hb
    rw [if_neg (by omega), if_neg (by omega)]
    simp
  have k1 := key a b (by omega) (by omega) (by omega) (by omega)
  have k2 := key b a (by omega) (by omega) (by omega) (by omega)
  have hc : a * b = b * a := Int.mul_comm a b
  by_cases h : l < a * b
  · rw [if_pos (by omega), if_pos (by omega)]
  · rw [if_neg (by omega), if_neg (by omega), hc]

theorem mulS_none (a b l : Int) (h : a < 0 ∨ b < 0 ∨ l < a ∨ l < b) : mulS a b l = (0, false) := by
  unfold mulS
  rw [if_pos (by omega)]

theorem mulS_left (b l : Int) (h1 : 0 ≤ b) (h2 : 0 ≤ l) (h3 : b ≤ l) : mulS 0 b l = (0, true) := by
  unfold mulS
  rw [if_neg]
  · simp
  · have : 0 < b → 0 ≤ l / b := fun _ => Int.ediv_nonneg (by omega) (by omega)
    omega

set_option maxHeartbeats 4000000 in
set_option maxRecDepth 100000 in
theorem SizeMuls_law (a b l : Int) (w : World) (ha : I64 a) (hb : I64 b) (hl : I64 l) :
    Calls Try.prog 9 #[.int .i64 a, .int .i64 b, .int .i64 l] w fun e w' => e = .returned (.bool true) ∧ Below w.heap.size w w' := by
  have Hb := Lib.hid hb
  have Hl := Lib.hid hl
  have Ha := Lib.hid ha
  obtain ⟨hl1, hl2⟩ := hl
  obtain ⟨hb1, hb2⟩ := hb
  obtain ⟨ha1, ha2⟩ := ha
  have hc := mulS_comm b a l
  by_cases h1 : a < 0
  · have e := mulS_none a b l (by omega)
    rw [e] at hc
    go_enter Try.func9, Try.ntmps9
    go_wp2_with fail
    refine (awake01 _).mono ?_
    rintro e w' ⟨rfl, hb1⟩
    go_wp2_with fail
    refine (Mul_is a b l _ _ e Hb.out Hl.out _).mono ?_
    rintro e w' ⟨rfl, rfl⟩
    go_wp2_with fail
    refine (Mul_is b a l _ _ hc Ha.out Hl.out _).mono ?_
    rintro e w' ⟨rfl, rfl⟩
    go_wp2_with fail
    go_ret
    exact ⟨rfl, by assumption⟩
  by_cases h2 : b < 0
  · have e := mulS_none a b l (by omega)
    rw [e] at hc
    go_enter Try.func9, Try.ntmps9
    go_wp2_with fail
    refine (awake01 _).mono ?_
    rintro e w' ⟨rfl, hb1⟩
    go_wp2_with fail
    refine (Mul_is a b l _ _ e Hb.out Hl.out _).mono ?_
    rintro e w' ⟨rfl, rfl⟩
    go_wp2_with fail
    refine (Mul_is b a l _ _ hc Ha.out Hl.out _).mono ?_
    rintro e w' ⟨rfl, rfl⟩
    go_wp2_with fail
    go_ret
    exact ⟨rfl, by assumption⟩
  by_cases h3 : l < a
  · have e := mulS_none a b l (by omega)
    rw [e] at hc
    go_enter Try.func9, Try.ntmps9
    go_wp2_with fail
    refine (awake01 _).mono ?_
    rintro e w' ⟨rfl, hb1⟩
    go_wp2_with fail
    refine (Mul_is a b l _ _ e Hb.out Hl.out _).mono ?_
    rintro e w' ⟨rfl, rfl⟩
    go_wp2_with fail
    refine (Mul_is b a l _ _ hc Ha.out Hl.out _).mono ?_
    rintro e w' ⟨rfl, rfl⟩
    go_wp2_with fail
    go_ret
    exact ⟨rfl, by assumption⟩
  by_cases h4 : l < b
  · have e := mulS_none a b l (by omega)
    rw [e] at hc
    go_enter Try.func9, Try.ntmps9
    go_wp2_with fail
    refine (awake01 _).mono ?_
    rintro e w' ⟨rfl, hb1⟩
    go_wp2_with fail
    refine (Mul_is a b l _ _ e Hb.out Hl.out _).mono ?_
    rintro e w' ⟨rfl, rfl⟩
    go_wp2_with fail
    refine (Mul_is b a l _ _ hc Ha.out Hl.out _).mono ?_
    rintro e w' ⟨rfl, rfl⟩
    go_wp2_with fail
    go_ret
    exact ⟨rfl, by assumption⟩
  by_cases h5 : a = 0
  · subst h5
    have e := mulS_left b l (by omega) (by omega) (by omega)
    rw [e] at hc
    go_enter Try.func9, Try.ntmps9
    go_wp2_with fail
    refine (awake01 _).mono ?_
    rintro e w' ⟨rfl, hb1⟩
    go_wp2_with fail
    refine (Mul_is 0 b l _ _ e Hb.out Hl.out _).mono ?_
    rintro e w' ⟨rfl, rfl⟩
    go_wp2_with fail
    refine (Mul_is b 0 l _ _ hc Ha.out Hl.out _).mono ?_
    rintro e w' ⟨rfl, rfl⟩
    go_wp2_with fail
    go_ret
    exact ⟨rfl, by assumption⟩
  by_cases h6 : b = 0
  · subst h6
    have e := mulS_left a l (by omega) (by omega) (by omega)
    rw [e] at hc
    go_enter Try.func9, Try.ntmps9
    go_wp2_with fail
    refine (awake01 _).mono ?_
    rintro e w' ⟨rfl, hb1⟩
    go_wp2_with fail
    refine (Mul_is a 0 l _ _ hc.symm Hb.out Hl.out _).mono ?_
    rintro e w' ⟨rfl, rfl⟩
    go_wp2_with fail
    refine (Mul_is 0 a l _ _ e Ha.out Hl.out _).mono ?_
    rintro e w' ⟨rfl, rfl⟩
    go_wp2_with fail
    go_ret
    exact ⟨rfl, by assumption⟩
  have ha0 : 0 < a := by omega
  have hb0 : 0 < b := by omega
  have k1 : a ≤ l / b ↔ a * b ≤ l := Int.le_ediv_iff_mul_le hb0
  have k2 : b ≤ l / a ↔ b * a ≤ l := Int.le_ediv_iff_mul_le ha0
  have hm : a * b = b * a := Int.mul_comm a b
  by_cases h7 : l / b < a
  · have e : mulS a b l = (0, false) := by unfold mulS; rw [if_pos (by omega)]
    rw [e] at hc
    have h8 : l / a < b := by omega
    have f1 : (a == 0) = false := by simp; omega
    have f2 : (b == 0) = false := by simp; omega
    clear k1 k2 hm
    go_enter Try.func9, Try.ntmps9
    go_wp2_with fail
    refine (awake01 _).mono ?_
    rintro e w' ⟨rfl, hb1⟩
    go_wp2_with fail
    refine (Mul_is a b l _ _ e Hb.out Hl.out _).mono ?_
    rintro e w' ⟨rfl, rfl⟩
    go_wp2_with fail
    refine (Mul_is b a l _ _ hc Ha.out Hl.out _).mono ?_
    rintro e w' ⟨rfl, rfl⟩
    go_wp2_with fail
    go_ret
    exact ⟨rfl, by assumption⟩
  · have e : mulS a b l = (a * b, true) := by unfold mulS; rw [if_neg (by omega)]
    rw [e] at hc
    have h8 : a * b ≤ l := by omega
    have h9 : 0 < a * b := Int.mul_pos ha0 hb0
    have f1 : (a == 0) = false := by simp; omega
    have f2 : (b == 0) = false := by simp; omega
    have f3 : a * b / a = b := Int.mul_ediv_cancel_left b (by omega)
    have f4 : a * b % a = 0 := Int.mul_emod_right a b
    clear k1 k2 hm
    go_enter Try.func9, Try.ntmps9
    go_wp2_with fail
    refine (awake01 _).mono ?_
    rintro e w' ⟨rfl, hb1⟩
    go_wp2_with fail
    refine (Mul_is a b l _ _ e Hb.out Hl.out _).mono ?_
    rintro e w' ⟨rfl, rfl⟩
    go_wp2_with fail
    refine (Mul_is b a l _ _ hc Ha.out Hl.out _).mono ?_
    rintro e w' ⟨rfl, rfl⟩
    go_wp2_with fail
    go_ret
    exact ⟨rfl, by assumption⟩
end Go.Proofs.Ythkfjiioekhkhaa
