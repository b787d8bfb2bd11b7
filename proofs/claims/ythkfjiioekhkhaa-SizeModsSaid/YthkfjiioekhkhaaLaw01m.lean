/- The law SizeMods of layer 1 (size), walked: it returns true at all arguments and writes nothing that was there. -/
import Derived.Test.YthkfjiioekhkhaaLaw01
namespace Go.Proofs.Ythkfjiioekhkhaa
open Go.RowKit Go.Shelf

theorem mod_parts (k n : Int) (hn : 0 < n) : ∃ r, modS k n = r ∧ 0 ≤ r ∧ r < n ∧ (k - r) % n = 0 ∧ (k + (n - r)).tmod n = 0 ∧ (0 ≤ k → r ≤ k) ∧ ∀ t : Int, modS (k + t * n) n = r := by
  have h2 := Int.emod_nonneg k (show n ≠ 0 by omega)
  have h3 := Int.emod_lt_of_pos k hn
  have hd : k - k % n = n * (k / n) := by have := Int.mul_ediv_add_emod k n; omega
  refine ⟨k % n, ?_, h2, h3, ?_, ?_, ?_, ?_⟩
  · unfold modS
    rw [if_neg (by omega)]
  · rw [hd]
    exact Int.mul_emod_right n _
  · have e : k + (n - k % n) = n * (k / n + 1) := by rw [Int.mul_add]; omega
    rw [e]
    exact Int.mul_tmod_right n _
  · intro hk
    have := Int.ediv_nonneg hk (Int.le_of_lt hn)
    have := Int.mul_nonneg (Int.le_of_lt hn) this
    omega
  · intro t
    unfold modS
    rw [if_neg (by omega), Int.add_mul_emod_self_right]

theorem RefMod_is (k n r : Int) (hr : modS k n = r) (hk : -9000000000000000000 ≤ k ∧ k ≤ 9000000000000000000) (hn : n ≤ 4611686018427387904) (w : World) :
    Calls Try.prog 35 #[.int .i64 k, .int .i64 n] w fun e w' => e = .returned (.int .i64 r) ∧ w = w' := by
  have := RefMod_any k n w hk hn
  rw [hr] at this
  exact this

theorem I16_mul (t n : Int) (ht1 : -32768 ≤ t) (ht2 : t ≤ 32767) (hn1 : 0 < n) (hn2 : n ≤ 1048576) : -34359738368 ≤ t * n ∧ t * n ≤ 34359738368 := by
  constructor
  · have h1 : (-32768) * n ≤ t * n := Int.mul_le_mul_of_nonneg_right ht1 (by omega)
    omega
  · have h1 : t * n ≤ 32767 * n := Int.mul_le_mul_of_nonneg_right ht2 (by omega)
    omega

set_option maxHeartbeats 4000000 in
set_option maxRecDepth 100000 in
theorem SizeMods_law (k n t : Int) (w : World) (hk : I64 k) (hn : I64 n) (ht : -32768 ≤ t ∧ t ≤ 32767) :
    Calls Try.prog 11 #[.int .i64 k, .int .i64 n, .int .i16 t] w fun e w' => e = .returned (.bool true) ∧ Below w.heap.size w w' := by
  have Hk := Lib.hid hk
  have Hn := Lib.hid hn
  obtain ⟨ht1, ht2⟩ := ht
  obtain ⟨hk1, hk2⟩ := hk
  obtain ⟨hn1, hn2⟩ := hn
  by_cases h1 : n ≤ 0
  · have e : modS k n = 0 := by simp [modS, h1]
    go_enter Try.func11, Try.ntmps11
    go_wp2_with fail
    refine (awake01 _).mono ?_
    rintro e w' ⟨rfl, hb1⟩
    go_wp2_with fail
    refine (Mod_is k n 0 e Hk.out Hn.out _).mono ?_
    rintro e w' ⟨rfl, rfl⟩
    go_wp2_with fail
    go_ret
    exact ⟨rfl, by assumption⟩
  obtain ⟨r, hr, hr1, hr2, hd1, hd2, hle, hm⟩ := mod_parts k n (by omega)
  have Hr := Lib.hid hr
  have Hm := Lib.hid hm
  have Hd2 := Lib.hid hd2
  have Hd1 := Lib.hid hd1
  clear hr hm hd2 hd1
  by_cases h2 : 1099511627776 < k
  · have hle' := hle (by omega)
    have f1 : ((k - r) % n != 0) = false := by rw [Hd1.out]; rfl
    clear hle
    go_enter Try.func11, Try.ntmps11
    go_wp2_with fail
    refine (awake01 _).mono ?_
    rintro e w' ⟨rfl, hb1⟩
    go_wp2_with fail
    refine (Mod_is k n r Hr.out Hk.out Hn.out _).mono ?_
    rintro e w' ⟨rfl, rfl⟩
    go_wp2_with fail
    go_ret
    exact ⟨rfl, by assumption⟩
  by_cases h3 : k < -1099511627776
  · by_cases h5 : k + (n - r) < 0
    · have f1 : ((k + (n - r)).tmod n != 0) = false := by rw [Hd2.out]; rfl
      clear hle
      go_enter Try.func11, Try.ntmps11
      go_wp2_with fail
      refine (awake01 _).mono ?_
      rintro e w' ⟨rfl, hb1⟩
      go_wp2_with fail
      refine (Mod_is k n r Hr.out Hk.out Hn.out _).mono ?_
      rintro e w' ⟨rfl, rfl⟩
      go_wp2_with fail
      go_ret
      exact ⟨rfl, by assumption⟩
    · clear hle
      go_enter Try.func11, Try.ntmps11
      go_wp2_with fail
      refine (awake01 _).mono ?_
      rintro e w' ⟨rfl, hb1⟩
      go_wp2_with fail
      refine (Mod_is k n r Hr.out Hk.out Hn.out _).mono ?_
      rintro e w' ⟨rfl, rfl⟩
      go_wp2_with fail
      go_ret
      exact ⟨rfl, by assumption⟩
  by_cases h4 : 1048576 < n
  · by_cases h6 : 0 ≤ k
    · have hle' := hle h6
      have f1 : ((k - r) % n != 0) = false := by rw [Hd1.out]; rfl
      clear hle
      go_enter Try.func11, Try.ntmps11
      go_wp2_with fail
      refine (awake01 _).mono ?_
      rintro e w' ⟨rfl, hb1⟩
      go_wp2_with fail
      refine (Mod_is k n r Hr.out Hk.out Hn.out _).mono ?_
      rintro e w' ⟨rfl, rfl⟩
      go_wp2_with fail
      go_ret
      exact ⟨rfl, by assumption⟩
    · by_cases h5 : k + (n - r) < 0
      · have f1 : ((k + (n - r)).tmod n != 0) = false := by rw [Hd2.out]; rfl
        clear hle
        go_enter Try.func11, Try.ntmps11
        go_wp2_with fail
        refine (awake01 _).mono ?_
        rintro e w' ⟨rfl, hb1⟩
        go_wp2_with fail
        refine (Mod_is k n r Hr.out Hk.out Hn.out _).mono ?_
        rintro e w' ⟨rfl, rfl⟩
        go_wp2_with fail
        go_ret
        exact ⟨rfl, by assumption⟩
      · clear hle
        go_enter Try.func11, Try.ntmps11
        go_wp2_with fail
        refine (awake01 _).mono ?_
        rintro e w' ⟨rfl, hb1⟩
        go_wp2_with fail
        refine (Mod_is k n r Hr.out Hk.out Hn.out _).mono ?_
        rintro e w' ⟨rfl, rfl⟩
        go_wp2_with fail
        go_ret
        exact ⟨rfl, by assumption⟩
  obtain ⟨hp1, hp2⟩ := I16_mul t n ht1 ht2 (by omega) (by omega)
  have Hs : Hid (I64 (k + t * n)) := ⟨by omega, by omega⟩
  by_cases h6 : 0 ≤ k
  · have hle' := hle h6
    have f1 : ((k - r) % n != 0) = false := by rw [Hd1.out]; rfl
    clear hle
    by_cases h7 : 100000 < k
    · go_enter Try.func11, Try.ntmps11
      go_wp2_with fail
      refine (awake01 _).mono ?_
      rintro e w' ⟨rfl, hb1⟩
      go_wp2_with fail
      refine (Mod_is k n r Hr.out Hk.out Hn.out _).mono ?_
      rintro e w' ⟨rfl, rfl⟩
      go_wp2_with fail
      refine (Mod_is (k + t * n) n r (Hm.out t) Hs.out Hn.out _).mono ?_
      rintro e w' ⟨rfl, rfl⟩
      go_wp2_with fail
      go_ret
      exact ⟨rfl, by assumption⟩
    · go_enter Try.func11, Try.ntmps11
      go_wp2_with fail
      refine (awake01 _).mono ?_
      rintro e w' ⟨rfl, hb1⟩
      go_wp2_with fail
      refine (Mod_is k n r Hr.out Hk.out Hn.out _).mono ?_
      rintro e w' ⟨rfl, rfl⟩
      go_wp2_with fail
      refine (Mod_is (k + t * n) n r (Hm.out t) Hs.out Hn.out _).mono ?_
      rintro e w' ⟨rfl, rfl⟩
      go_wp2_with fail
      refine (RefMod_is k n r Hr.out ⟨by omega, by omega⟩ (by omega) _).mono ?_
      rintro e w' ⟨rfl, rfl⟩
      go_wp2_with fail
      go_ret
      exact ⟨rfl, by assumption⟩
  · clear hle
    by_cases h5 : k + (n - r) < 0
    · have f1 : ((k + (n - r)).tmod n != 0) = false := by rw [Hd2.out]; rfl
      by_cases h7 : k < -100000
      · go_enter Try.func11, Try.ntmps11
        go_wp2_with fail
        refine (awake01 _).mono ?_
        rintro e w' ⟨rfl, hb1⟩
        go_wp2_with fail
        refine (Mod_is k n r Hr.out Hk.out Hn.out _).mono ?_
        rintro e w' ⟨rfl, rfl⟩
        go_wp2_with fail
        refine (Mod_is (k + t * n) n r (Hm.out t) Hs.out Hn.out _).mono ?_
        rintro e w' ⟨rfl, rfl⟩
        go_wp2_with fail
        go_ret
        exact ⟨rfl, by assumption⟩
      · go_enter Try.func11, Try.ntmps11
        go_wp2_with fail
        refine (awake01 _).mono ?_
        rintro e w' ⟨rfl, hb1⟩
        go_wp2_with fail
        refine (Mod_is k n r Hr.out Hk.out Hn.out _).mono ?_
        rintro e w' ⟨rfl, rfl⟩
        go_wp2_with fail
        refine (Mod_is (k + t * n) n r (Hm.out t) Hs.out Hn.out _).mono ?_
        rintro e w' ⟨rfl, rfl⟩
        go_wp2_with fail
        refine (RefMod_is k n r Hr.out ⟨by omega, by omega⟩ (by omega) _).mono ?_
        rintro e w' ⟨rfl, rfl⟩
        go_wp2_with fail
        go_ret
        exact ⟨rfl, by assumption⟩
    · by_cases h7 : k < -100000
      · go_enter Try.func11, Try.ntmps11
        go_wp2_with fail
        refine (awake01 _).mono ?_
        rintro e w' ⟨rfl, hb1⟩
        go_wp2_with fail
        refine (Mod_is k n r Hr.out Hk.out Hn.out _).mono ?_
        rintro e w' ⟨rfl, rfl⟩
        go_wp2_with fail
        refine (Mod_is (k + t * n) n r (Hm.out t) Hs.out Hn.out _).mono ?_
        rintro e w' ⟨rfl, rfl⟩
        go_wp2_with fail
        go_ret
        exact ⟨rfl, by assumption⟩
      · go_enter Try.func11, Try.ntmps11
        go_wp2_with fail
        refine (awake01 _).mono ?_
        rintro e w' ⟨rfl, hb1⟩
        go_wp2_with fail
        refine (Mod_is k n r Hr.out Hk.out Hn.out _).mono ?_
        rintro e w' ⟨rfl, rfl⟩
        go_wp2_with fail
        refine (Mod_is (k + t * n) n r (Hm.out t) Hs.out Hn.out _).mono ?_
        rintro e w' ⟨rfl, rfl⟩
        go_wp2_with fail
        refine (RefMod_is k n r Hr.out ⟨by omega, by omega⟩ (by omega) _).mono ?_
        rintro e w' ⟨rfl, rfl⟩
        go_wp2_with fail
        go_ret
        exact ⟨rfl, by assumption⟩
end Go.Proofs.Ythkfjiioekhkhaa
