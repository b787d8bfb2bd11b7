/- The methods of an access's linear form, and access.Shift, Flip and Permute. Conditions: the axes are in range and the numbers not too large, as each says. -/
import Derived.Test.YthkfjdhakbjllaaAcc5
import Derived.Test.YthkfjdhakbjllaaTab
namespace Go.Proofs.Ythkfjdhakbjllaa
open Go.RowKit Go.Shelf
set_option linter.unusedVariables false
set_option linter.unusedSimpArgs false

/-- the linear form at the head of a block: its first number and its strides' row -/
def Lin (w : World) (g : Nat) (x : Int) (p' : Option Addr) (c' : Nat) (ys : List Int) (rest : List Value) : Prop :=
  Own w g 131 (.int .i64 x :: .slice p' ys.length c' :: rest)
theorem Moving.lin {w : World} {g : Nat} {x : Int} {p' : Option Addr} {c' : Nat} {ys : List Int} {k b e : Int} {v : Value} {st sp md : Int} (h : Moving w g x p' c' ys k b e v st sp md) : Lin w g x p' c' ys [.int .i64 k, .int .i64 b, .int .i64 e, v, .int .i64 st, .int .i64 sp, .int .i64 md] := h

set_option maxRecDepth 100000 in
set_option maxHeartbeats 2000000 in
theorem shift_any (g : Nat) (x : Int) (p' : Option Addr) (c' : Nat) (ys : List Int) (rest : List Value) (a : Nat) (by' X : Int) (w : World) (h : Lin w g x p' c' ys rest) (h' : Ints w p' ys) (ha : a < ys.length) (hX : x + by' * nth ys a = X) (hb1 : -4000000000000000000 ≤ by' * nth ys a) (hb2 : by' * nth ys a ≤ 4000000000000000000) (hx1 : -4000000000000000000 ≤ x) (hx2 : x ≤ 4000000000000000000) :
    Calls Try.prog 124 #[.pointer (some ⟨g, 0, none⟩), .int .i64 a, .int .i64 by'] w fun e' w' => (∃ v, e' = .returned v) ∧ Lin w' g X p' c' ys rest ∧ Chg (fun j => j = g) w w' := by
  have hn := h'.small
  have hg := Own.lt h
  have h0 := Own.cell h (i := 0) rfl
  have h1 := Own.cell h (i := 1) rfl
  have hf := Own.frozen h 0
  obtain ⟨bl, o, rfl, -, hc⟩ := h'.at ha
  have hi0 : (0 : Int) ≤ (a : Int) := by omega
  have hi1 : (a : Int) < (ys.length : Int) := by omega
  obtain ⟨y, hy⟩ : ∃ y, nth ys a = y := ⟨_, rfl⟩
  rw [hy] at hc hb1 hb2 hX
  obtain ⟨z, hz⟩ : ∃ z, by' * y = z := ⟨_, rfl⟩
  rw [hz] at hb1 hb2 hX
  have hw1 : IntKind.i64.wrap (by' * y) = z := by rw [hz]; exact IntWalk.i64_in _ (by omega)
  have hw2 : IntKind.i64.wrap (x + z) = X := by rw [hX]; exact IntWalk.i64_in _ (by omega)
  have hw3 : wrap64 (by' * y) = z := by rw [hz]; exact wrap64_ok (by omega) (by omega)
  have hw4 : wrap64 (x + z) = X := by rw [hX]; exact wrap64_ok (by omega) (by omega)
  clear hy hz hX
  go_enter Try.func124, Try.ntmps124
  go_wp2_with fail
  go_region
  all_goals
    go_wp2_with fail
    go_end0
    refine ⟨⟨_, rfl⟩, ?_, ?_⟩
    · exact (show Own w.drew g 131 _ from h).set (i := 0) (by simp) _
    · exact ((Chg.refl (fun j => j = g) w).set (p := ⟨g, 0, none⟩) rfl _).drewN 1

set_option maxRecDepth 100000 in
set_option maxHeartbeats 2000000 in
theorem flip_any (g g2 : Nat) (x : Int) (c' : Nat) (ys : List Int) (rest : List Value) (a : Nat) (n X : Int) (w : World) (h : Lin w g x (some ⟨g2, 0, none⟩) c' ys rest) (h' : Own w g2 3 (ys.map (.int .i64))) (hne : g2 ≠ g) (hi : ∀ y ∈ ys, I64 y) (hl : ys.length ≤ 1000000) (ha : a < ys.length) (hn0 : -1000000 ≤ n) (hn1 : n ≤ 1000000) (hX : x + (n - 1) * nth ys a = X) (hb1 : -4000000000000000000 ≤ (n - 1) * nth ys a) (hb2 : (n - 1) * nth ys a ≤ 4000000000000000000) (hx1 : -4000000000000000000 ≤ x) (hx2 : x ≤ 4000000000000000000) (hy : -4000000000000000000 ≤ nth ys a) :
    Calls Try.prog 122 #[.pointer (some ⟨g, 0, none⟩), .int .i64 a, .int .i64 n] w fun e' w' => (∃ v, e' = .returned v) ∧ Lin w' g X (some ⟨g2, 0, none⟩) c' ys rest ∧ Own w' g2 3 ((ys.set a (-(nth ys a))).map (.int .i64)) ∧ Chg (fun j => j = g ∨ j = g2) w w' := by
  have hI : Ints w (some ⟨g2, 0, none⟩) ys := ⟨.inr ⟨g2, 0, rfl, h'.lt, fun i u hu => by rw [Nat.zero_add]; exact h'.cell hu⟩, hi, by omega⟩
  have HX := Lib.hid hX
  have Hb1 := Lib.hid hb1
  have Hb2 := Lib.hid hb2
  clear hX hb1 hb2
  go_enter Try.func122, Try.ntmps122
  go_wp2_with fail
  refine (shift_any g x (some ⟨g2, 0, none⟩) c' ys rest a (n - 1) X w h hI ha HX.out Hb1.out Hb2.out hx1 hx2).mono ?_
  rintro e1 w1 ⟨⟨v, rfl⟩, hL, hch⟩
  have ho := h'.chg hch (by intro e; exact hne e)
  have h1 := Own.cell hL (i := 1) rfl
  have hc := ho.cell (nth_map ha)
  have hf := ho.frozen a
  have hlt := ho.lt
  have hi0 : (0 : Int) ≤ (a : Int) := by omega
  have hi1 : (a : Int) < (ys.length : Int) := by omega
  have hys : ys.length ≤ 1000000 := hl
  obtain ⟨y, hyy⟩ : ∃ y, nth ys a = y := ⟨_, rfl⟩
  rw [hyy] at hc hy
  have Hyy := Lib.hid hyy
  have hy2 : y ≤ 9223372036854775807 := by rw [← hyy]; exact (hi _ (nth_mem ha)).2
  clear hyy
  have hw1 : IntKind.i64.wrap (-y) = -y := IntWalk.i64_in _ (by omega)
  have hw2 : wrap64 (-y) = -y := wrap64_ok (by omega) (by omega)
  go_wp2_with fail
  go_region
  all_goals
    go_wp2_with fail
    go_end0
    refine ⟨⟨_, rfl⟩, ?_, ?_, ?_⟩
    · exact Own.other (show Own w1.drew g 131 _ from hL) hne _
    · rw [Hyy.out, ← map_set]
      exact Own.set (show Own w1.drew g2 3 _ from ho) (by simpa using ha) _
    · exact ((hch.mono fun j hj => .inl hj).set (p := ⟨g2, a, none⟩) (.inr rfl) _).drewN 1

theorem total_two (u v : Int) (p : Option Addr) (c : Nat) (w : World) (h : Ints w p [u, v]) (hu : -4000000000000000000 ≤ u ∧ u ≤ 4000000000000000000) (hv : -4000000000000000000 ≤ v ∧ v ≤ 4000000000000000000) :
    Calls Try.prog 128 #[.slice p 2 c] w fun e' w' => e' = .returned (.int .i64 (u + v)) ∧ w = w' := by
  have hu' := hu
  have hv' := hv
  go_enter Try.func128, Try.ntmps128
  go_wp2
  go_loop [3, 8] (fun n i => ∃ k : Nat, k ≤ 2 ∧ i = .int .i64 k ∧ n = .int .i64 (if k = 0 then 0 else if k = 1 then u else u + v)) (fun _ i => 2 - (intOf i).toNat)
  case atStart => exact ⟨0, by omega, rfl, rfl⟩
  case round =>
    obtain ⟨k, hk, rfl, rfl⟩ := hrel
    by_cases h0 : k = 0
    · subst h0
      obtain ⟨b, o, rfl, -, hc⟩ := h.at (k := 0) (by simp)
      have e : nth [u, v] 0 = u := rfl
      rw [e, Nat.add_zero] at hc
      obtain ⟨hu1, hu2⟩ := hu'
      go_wp2
      go_round
      case rel => exact ⟨1, by omega, by go_num, by simp⟩
      case measure => simp [intOf]
    · by_cases h1 : k = 1
      · subst h1
        obtain ⟨b, o, rfl, -, hc⟩ := h.at (k := 1) (by simp)
        have e : nth [u, v] 1 = v := rfl
        rw [e] at hc
        obtain ⟨hu1, hu2⟩ := hu'
        obtain ⟨hv1, hv2⟩ := hv'
        go_wp2
        go_round
        case rel => exact ⟨2, by omega, by go_num, by simp⟩
        case measure => simp [intOf]
      · have : k = 2 := by omega
        subst this
        go_wp2
        go_ret
        exact ⟨ret_int (by simp), rfl⟩
end Go.Proofs.Ythkfjdhakbjllaa
