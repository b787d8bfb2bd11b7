/- What size.Sum, Dimension, Magnitude, Mod and the reference's Product, Sum, Dimension, Magnitude, Mod return. -/
import Derived.Test.YthkfjdhakbjllaaSize
namespace Go.Proofs.Ythkfjdhakbjllaa
open Go.RowKit Go.Shelf






theorem tmod_neg_mod {k n : Int} (hn : 0 < n) : (k.tmod n < 0 → k.tmod n + n = k % n) ∧ (¬ k.tmod n < 0 → k.tmod n = k % n) := by
  have h1 := Int.tmod_eq_emod (a := k) (b := n)
  have h2 := Int.emod_nonneg k (show n ≠ 0 by omega)
  have h3 := Int.emod_lt_of_pos k hn
  have h4 : (n.natAbs : Int) = n := by omega
  by_cases hd : 0 ≤ k ∨ n ∣ k
  · rw [if_pos hd] at h1
    omega
  · rw [if_neg hd] at h1
    have : k % n ≠ 0 := fun h => hd (.inr (Int.dvd_of_emod_eq_zero h))
    omega

theorem Mod_any (k n : Int) (w : World) (hk : I64 k) (hn : I64 n) :
    Calls Try.prog 108 #[.int .i64 k, .int .i64 n] w fun e w' => e = .returned (.int .i64 (modS k n)) ∧ w = w' := by
  obtain ⟨hk1, hk2⟩ := hk
  obtain ⟨hn1, hn2⟩ := hn
  by_cases h1 : n ≤ 0
  · have e : modS k n = 0 := by simp [modS, h1]
    rw [e]
    clear e
    go_enter Try.func108, Try.ntmps108
    go_wp2
    go_ret
    exact ⟨rfl, rfl⟩
  · have e : modS k n = k % n := by simp [modS, h1]
    have hp : 0 < n := by omega
    have h2 := Int.emod_nonneg k (show n ≠ 0 by omega)
    have h3 := Int.emod_lt_of_pos k hp
    rw [e]
    clear e
    by_cases hk : 0 ≤ k
    · go_enter Try.func108, Try.ntmps108
      go_wp2
      go_ret
      exact ⟨rfl, rfl⟩
    · have hk' : k < 0 := by omega
      have ht := tmod_neg_mod (k := k) hp
      have hb1 : k.tmod n ≤ 0 := by
        by_cases h : k.tmod n < 0
        · omega
        · have := ht.2 h
          have h5 := Int.tmod_eq_emod (a := k) (b := n)
          split at h5
          · rename_i hd
            have hd' : n ∣ k := by
              rcases hd with hd | hd
              · omega
              · exact hd
            have : k % n = 0 := Int.emod_eq_zero_of_dvd hd'
            omega
          · have h4 : (n.natAbs : Int) = n := by omega
            omega
      have hb2 : -n ≤ k.tmod n := by
        by_cases h : k.tmod n < 0
        · have := ht.1 h; omega
        · omega
      have Ht := Lib.hid ht
      clear ht
      by_cases h : k.tmod n < 0
      · have e := Lib.hid (Ht.out.1 h)
        go_enter Try.func108, Try.ntmps108
        go_wp2
        go_ret
        exact ⟨ret_int e.out, rfl⟩
      · have e := Lib.hid (Ht.out.2 h)
        go_enter Try.func108, Try.ntmps108
        go_wp2
        go_ret
        exact ⟨ret_int e.out, rfl⟩

end Go.Proofs.Ythkfjdhakbjllaa
