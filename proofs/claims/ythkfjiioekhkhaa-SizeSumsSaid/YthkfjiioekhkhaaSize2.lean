/- What size.Sum, Dimension, Magnitude, Mod and the reference's Product, Sum, Dimension, Magnitude, Mod return. -/
import Derived.Test.YthkfjiioekhkhaaSize
namespace Go.Proofs.Ythkfjiioekhkhaa
open Go.RowKit Go.Shelf

theorem Sum1_any (a b : Int) (w : World) (ha : 0 ≤ a ∧ a ≤ 65536) (hb : 0 ≤ b ∧ b ≤ 65536) :
    Calls Try.prog 48 #[.int .i64 a, .int .i64 b] w fun e w' => e = .returned (.tuple #[.int .i64 (addF a b).1, .bool (addF a b).2]) ∧ w = w' := by
  obtain ⟨ha1, ha2⟩ := ha
  obtain ⟨hb1, hb2⟩ := hb
  go_enter Try.func48, Try.ntmps48
  go_wp2
  go_ret2
  exact ⟨rfl, rfl⟩

theorem Sum_any (a : Option Addr) (c : Nat) (xs : List Int) (w : World) (h : Ints w a xs) :
    Calls Try.prog 27 #[.slice a xs.length c] w fun e w' => e = .returned (.tuple #[.int .i64 (sumR xs).1, .int .i64 (sumR xs).2]) ∧ w = w' := by
  have H := Lib.hid fun w' hw' => combined_any 48 addF (fun q => 0 ≤ q ∧ q ≤ 65536) (enters_of Try.func48 (by kernel_rfl) rfl) a c xs 0 w' hw' (fun acc x w hi hx => Sum1_any acc x w hi hx) ⟨by omega, by omega⟩
    (fun acc x hi hx hf => by simp [addF] at hf ⊢; omega)
  rw [← sumS_eq]
  go_enter Try.func27, Try.ntmps27
  go_wp2_with fail
  refine (H.out _ h).mono ?_
  rintro e w' ⟨rfl, rfl⟩
  go_wp2_with fail
  go_ret2
  exact ⟨rfl, rfl⟩

theorem Dimension_any (v : Int) (w : World) :
    Calls Try.prog 30 #[.int .i64 v] w fun e w' => e = .returned (.tuple #[.int .i64 (dimS v).1, .int .i64 (dimS v).2]) ∧ w = w' := by
  by_cases h1 : v < 0
  · have e : dimS v = (0, 6) := by simp [dimS, h1]
    rw [e]
    clear e
    go_enter Try.func30, Try.ntmps30
    go_wp2
    go_ret2
    exact ⟨rfl, rfl⟩
  by_cases h2 : 65536 < v
  · have e : dimS v = (0, 7) := by simp [dimS, h1, h2]
    rw [e]
    clear e
    go_enter Try.func30, Try.ntmps30
    go_wp2
    go_ret2
    exact ⟨rfl, rfl⟩
  · have e : dimS v = (v, 0) := by simp [dimS, h1, h2]
    rw [e]
    clear e
    go_enter Try.func30, Try.ntmps30
    go_wp2
    go_ret2
    exact ⟨rfl, rfl⟩

theorem RefDimension_any (v : Int) (w : World) :
    Calls Try.prog 31 #[.int .i64 v] w fun e w' => e = .returned (.tuple #[.int .i64 (dimS v).1, .int .i64 (dimS v).2]) ∧ w = w' := by
  by_cases h1 : v < 0
  · have e : dimS v = (0, 6) := by simp [dimS, h1]
    rw [e]
    clear e
    go_enter Try.func31, Try.ntmps31
    go_wp2
    go_ret2
    exact ⟨rfl, rfl⟩
  by_cases h2 : 65536 < v
  · have e : dimS v = (0, 7) := by simp [dimS, h1, h2]
    rw [e]
    clear e
    go_enter Try.func31, Try.ntmps31
    go_wp2
    go_ret2
    exact ⟨rfl, rfl⟩
  · have e : dimS v = (v, 0) := by simp [dimS, h1, h2]
    rw [e]
    clear e
    go_enter Try.func31, Try.ntmps31
    go_wp2
    go_ret2
    exact ⟨rfl, rfl⟩

theorem Magnitude_any (v : Int) (w : World) :
    Calls Try.prog 32 #[.int .i64 v] w fun e w' => e = .returned (.tuple #[.int .i64 (magS v).1, .int .i64 (magS v).2]) ∧ w = w' := by
  by_cases h1 : 65536 < v
  · have e : magS v = (0, 7) := by simp [magS, h1]
    rw [e]
    clear e
    go_enter Try.func32, Try.ntmps32
    go_wp2
    go_ret2
    exact ⟨rfl, rfl⟩
  by_cases h2 : v < -65536
  · have e : magS v = (0, 7) := by simp [magS, h1, h2]
    rw [e]
    clear e
    go_enter Try.func32, Try.ntmps32
    go_wp2
    go_ret2
    exact ⟨rfl, rfl⟩
  by_cases h3 : v < 0
  · have e : magS v = (-v, 0) := by unfold magS; rw [if_neg (by omega), if_pos h3]
    rw [e]
    clear e
    have hm := Lib.hid (show max v (-v) = -v by omega)
    go_enter Try.func32, Try.ntmps32
    go_wp2
    go_ret2
    exact ⟨ret_int2 (by first | rfl | exact hm.out) rfl, rfl⟩
  · have e : magS v = (v, 0) := by unfold magS; rw [if_neg (by omega), if_neg h3]
    rw [e]
    clear e
    have hm := Lib.hid (show max v (-v) = v by omega)
    go_enter Try.func32, Try.ntmps32
    go_wp2
    go_ret2
    exact ⟨ret_int2 (by first | rfl | exact hm.out) rfl, rfl⟩

theorem RefMagnitude_any (v : Int) (w : World) :
    Calls Try.prog 33 #[.int .i64 v] w fun e w' => e = .returned (.tuple #[.int .i64 (magS v).1, .int .i64 (magS v).2]) ∧ w = w' := by
  by_cases h1 : 65536 < v
  · have e : magS v = (0, 7) := by simp [magS, h1]
    rw [e]
    clear e
    go_enter Try.func33, Try.ntmps33
    go_wp2
    go_ret2
    exact ⟨rfl, rfl⟩
  by_cases h2 : v < -65536
  · have e : magS v = (0, 7) := by simp [magS, h1, h2]
    rw [e]
    clear e
    go_enter Try.func33, Try.ntmps33
    go_wp2
    go_ret2
    exact ⟨rfl, rfl⟩
  by_cases h3 : v < 0
  · have e : magS v = (-v, 0) := by unfold magS; rw [if_neg (by omega), if_pos h3]
    rw [e]
    clear e
    go_enter Try.func33, Try.ntmps33
    go_wp2
    go_ret2
    exact ⟨rfl, rfl⟩
  · have e : magS v = (v, 0) := by unfold magS; rw [if_neg (by omega), if_neg h3]
    rw [e]
    clear e
    go_enter Try.func33, Try.ntmps33
    go_wp2
    go_ret2
    exact ⟨rfl, rfl⟩

theorem tmod_neg_mod {k n : Int} (hn : 0 < n) : (k.tmod n < 0 → k.tmod n + n = k % n) ∧ (¬ k.tmod n < 0 → k.tmod n = k % n) := by
  have h1 := Int.tmod_eq_emod (a := k) (b := n)
  have h2 := Int.emod_nonneg k (show n ≠ 0 by omega)
  have h3 := Int.emod_lt_of_pos k hn
  have h4 : (n.natAbs : Int) = n := by omega
  by_cases hd : 0 ≤ k ∨ n ∣ k
  · rw [if_pos hd] at h1
    omega
  · rw [if_neg hd] at h1
    have : k % n ≠ 0 := fun h => hd (.inr (Int.dvd_of_emod_eq_zero h))
    omega

theorem Mod_any (k n : Int) (w : World) (hk : I64 k) (hn : I64 n) :
    Calls Try.prog 34 #[.int .i64 k, .int .i64 n] w fun e w' => e = .returned (.int .i64 (modS k n)) ∧ w = w' := by
  obtain ⟨hk1, hk2⟩ := hk
  obtain ⟨hn1, hn2⟩ := hn
  by_cases h1 : n ≤ 0
  · have e : modS k n = 0 := by simp [modS, h1]
    rw [e]
    clear e
    go_enter Try.func34, Try.ntmps34
    go_wp2
    go_ret
    exact ⟨rfl, rfl⟩
  · have e : modS k n = k % n := by simp [modS, h1]
    have hp : 0 < n := by omega
    have h2 := Int.emod_nonneg k (show n ≠ 0 by omega)
    have h3 := Int.emod_lt_of_pos k hp
    rw [e]
    clear e
    by_cases hk : 0 ≤ k
    · go_enter Try.func34, Try.ntmps34
      go_wp2
      go_ret
      exact ⟨rfl, rfl⟩
    · have hk' : k < 0 := by omega
      have ht := tmod_neg_mod (k := k) hp
      have hb1 : k.tmod n ≤ 0 := by
        by_cases h : k.tmod n < 0
        · omega
        · have := ht.2 h
          have h5 := Int.tmod_eq_emod (a := k) (b := n)
          split at h5
          · rename_i hd
            have hd' : n ∣ k := by
              rcases hd with hd | hd
              · omega
              · exact hd
            have : k % n = 0 := Int.emod_eq_zero_of_dvd hd'
            omega
          · have h4 : (n.natAbs : Int) = n := by omega
            omega
      have hb2 : -n ≤ k.tmod n := by
        by_cases h : k.tmod n < 0
        · have := ht.1 h; omega
        · omega
      have Ht := Lib.hid ht
      clear ht
      by_cases h : k.tmod n < 0
      · have e := Lib.hid (Ht.out.1 h)
        go_enter Try.func34, Try.ntmps34
        go_wp2
        go_ret
        exact ⟨ret_int e.out, rfl⟩
      · have e := Lib.hid (Ht.out.2 h)
        go_enter Try.func34, Try.ntmps34
        go_wp2
        go_ret
        exact ⟨ret_int e.out, rfl⟩

theorem RefMod_any (k n : Int) (w : World) (hk : -9000000000000000000 ≤ k ∧ k ≤ 9000000000000000000) (hn : n ≤ 4611686018427387904) :
    Calls Try.prog 35 #[.int .i64 k, .int .i64 n] w fun e w' => e = .returned (.int .i64 (modS k n)) ∧ w = w' := by
  obtain ⟨hk1, hk2⟩ := hk
  by_cases h1 : n ≤ 0
  · have e : modS k n = 0 := by simp [modS, h1]
    rw [e]
    clear e
    go_enter Try.func35, Try.ntmps35
    go_wp2
    go_ret
    exact ⟨rfl, rfl⟩
  · have e : modS k n = k % n := by simp [modS, h1]
    have hp : 0 < n := by omega
    have hn0 : ¬ n ≤ 0 := h1
    rw [e]
    clear e
    go_enter Try.func35, Try.ntmps35
    go_wp2
    go_loop [0] (fun v => ∃ q : Int, v = .int .i64 q ∧ -9000000000000000000 ≤ q ∧ q ≤ 9000000000000000000 ∧ Hid (q % n = k % n)) (fun v => (-(intOf v)).toNat)
    case atStart => exact ⟨k, rfl, hk1, hk2, rfl⟩
    case round =>
      obtain ⟨q, rfl, hq1, hq2, hq⟩ := hrel
      by_cases hlt : q < 0
      · go_wp2
        go_round
        case rel => exact ⟨q + n, rfl, by omega, by omega, by show (q + n) % n = k % n; rw [Int.add_emod_right]; exact hq.out⟩
        case measure => simp [intOf]; omega
      · go_wp2
        go_loop [0] (fun v => ∃ q : Int, v = .int .i64 q ∧ 0 ≤ q ∧ q ≤ 9000000000000000000 ∧ Hid (q % n = k % n)) (fun v => (intOf v).toNat)
        case atStart => exact ⟨q, rfl, by omega, hq2, hq⟩
        case round =>
          obtain ⟨r, rfl, hr1, hr2, hr⟩ := hrel
          by_cases hge : n ≤ r
          · go_wp2
            go_round
            case rel => exact ⟨r - n, rfl, by omega, by omega, by show (r - n) % n = k % n; rw [Int.sub_emod_right]; exact hr.out⟩
            case measure => simp [intOf]; omega
          · go_wp2
            go_ret
            exact ⟨ret_int (by rw [← hr.out, Int.emod_eq_of_lt hr1 (by omega)]), rfl⟩
end Go.Proofs.Ythkfjiioekhkhaa
