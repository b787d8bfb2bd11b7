/- The reference's decimal text of a number, and of a list of numbers. No condition beyond the range. -/
import Derived.Test.YtfifjokmhhakkaaDoorAid
import Derived.Test.YtfifjokmhhakkaaDoorApp
import Derived.Test.YtfifjokmhhakkaaDoorTextPlain
namespace Go.Proofs.YtfifjokmhhakkaaDoor
open Go.RowKit Go.Shelf
set_option linter.unusedVariables false
set_option linter.unusedSimpArgs false

def decB (u : Nat) : ByteArray := ⟨(Lib.decDigits u).toArray⟩
def itoB (x : Int) : ByteArray := ⟨(Lib.itoa x).toArray⟩
/-- the text of the first k numbers -/
def joinB (xs : List Int) : ByteArray := ⟨(Lib.join (xs.map Lib.itoa) [32]).toArray⟩
theorem dig_fin : ∀ i : Fin 10, (ByteArray.extract { data := #[48, 49, 50, 51, 52, 53, 54, 55, 56, 57] } i.val (i.val + 1)).data = #[UInt8.ofNat (48 + i.val)] := by decide +kernel
theorem dig_one {i : Nat} (h : i < 10) : ByteArray.extract { data := #[48, 49, 50, 51, 52, 53, 54, 55, 56, 57] } i (i + 1) = ⟨#[UInt8.ofNat (48 + i)]⟩ :=
  ByteArray.ext (dig_fin ⟨i, h⟩)
theorem decB_small {u : Nat} (h : u < 10) : ByteArray.extract { data := #[48, 49, 50, 51, 52, 53, 54, 55, 56, 57] } (u % 10) (u % 10 + 1) = decB u := by
  rw [Nat.mod_eq_of_lt h, dig_one h, decB, Lib.decDigits_one h]
theorem add_bytes (l r : List UInt8) : (⟨l.toArray⟩ : ByteArray) ++ ⟨r.toArray⟩ = ⟨(l ++ r).toArray⟩ := by
  apply ByteArray.ext
  rw [ByteArray.data_append]
  simp
theorem decB_big {u : Nat} (h : ¬ u < 10) : decB (u / 10) ++ ByteArray.extract { data := #[48, 49, 50, 51, 52, 53, 54, 55, 56, 57] } (u % 10) (u % 10 + 1) = decB u := by
  rw [dig_one (by omega)]
  show (⟨(Lib.decDigits (u / 10)).toArray⟩ : ByteArray) ++ ⟨[UInt8.ofNat (48 + u % 10)].toArray⟩ = ⟨(Lib.decDigits u).toArray⟩
  rw [add_bytes]
  conv => rhs; rw [Lib.decDigits, dif_neg h]

theorem decB_size {u : Nat} (h : (u : Int) ≤ 9223372036854775807) : (decB u).size ≤ 21 := by
  have := Lib.nDigits_le20 u (by omega)
  unfold decB
  show (Lib.decDigits u).toArray.size ≤ 21
  rw [List.size_toArray, Lib.decDigits_length]
  omega
set_option maxRecDepth 100000 in
set_option maxHeartbeats 2000000 in
theorem Dec_nat : ∀ (u : Nat), (u : Int) ≤ 9223372036854775807 → ∀ w : World,
    Calls Tryd.prog 29 #[.int .i64 u] w fun e w' => e = .returned (.string (decB u)) ∧ Below w.heap.size w w' := by
  intro u
  induction u using Nat.strongRecOn with
  | _ u ih =>
    intro hu w
    have k0 : ¬ (u : Int) < 0 := by omega
    by_cases k1 : u < 10
    · have k1' : (u : Int) < 10 := by omega
      have HB := Lib.hid (decB_small k1)
      clear ih
      go_enter Tryd.func29, Tryd.ntmps29
      go_wp2_with fail
      go_ret
      exact ⟨by rw [HB.out]; rfl, Below.refl _ _⟩
    · have k1' : ¬ (u : Int) < 10 := by omega
      have HB := Lib.hid (decB_big k1)
      have hsz := decB_size (u := u / 10) (by omega)
      have hsz2 : ¬ 9223372036854775807 < (decB (u / 10)).size + (min (u % 10 + 1) 10 - u % 10) := by omega
      have hc := ih (u / 10) (by omega) (by omega) w
      rw [show ((u / 10 : Nat) : Int) = (u : Int) / 10 by omega] at hc
      have HC := Lib.hid hc
      clear hc ih
      go_enter Tryd.func29, Tryd.ntmps29
      go_wp2_with fail
      refine HC.out.mono ?_
      rintro e1 w1 ⟨rfl, hb1⟩
      go_wp2_with fail
      go_ret
      exact ⟨by rw [HB.out]; rfl, hb1⟩
theorem itoB_size {x : Int} (h : I64 x) : (itoB x).size ≤ 21 := by
  have := Lib.itoa_length_le x h.1 h.2
  unfold itoB
  show (Lib.itoa x).toArray.size ≤ 21
  simpa using this
theorem itoB_min : itoB (-9223372036854775808) = ⟨#[45, 57, 50, 50, 51, 51, 55, 50, 48, 51, 54, 56, 53, 52, 55, 55, 53, 56, 48, 56]⟩ := by decide +kernel
theorem itoB_neg {x : Int} (h : x < 0) : (⟨#[45]⟩ : ByteArray) ++ decB (-x).toNat = itoB x := by
  show (⟨[45].toArray⟩ : ByteArray) ++ ⟨(Lib.decDigits (-x).toNat).toArray⟩ = ⟨(Lib.itoa x).toArray⟩
  rw [add_bytes, Lib.itoa, if_pos h, show (-x).toNat = x.natAbs by omega]
  rfl
theorem itoB_pos {x : Int} (h : ¬ x < 0) : decB x.toNat = itoB x := by
  unfold decB itoB Lib.itoa
  rw [if_neg h]

set_option maxRecDepth 100000 in
set_option maxHeartbeats 2000000 in
theorem Dec_any (x : Int) (hx : I64 x) (w : World) :
    Calls Tryd.prog 29 #[.int .i64 x] w fun e w' => e = .returned (.string (itoB x)) ∧ Below w.heap.size w w' := by
  unfold I64 at hx
  by_cases h0 : x < 0
  · by_cases h1 : x = -9223372036854775808
    · subst h1
      have HB := Lib.hid itoB_min
      go_enter Tryd.func29, Tryd.ntmps29
      go_wp2_with fail
      go_ret
      exact ⟨by rw [HB.out]; rfl, Below.refl _ _⟩
    · have d1 : (x == -9223372036854775808) = false := by simpa using h1
      have HB := Lib.hid (itoB_neg h0)
      have hsz := decB_size (u := (-x).toNat) (by omega)
      have hsz2 : ¬ 9223372036854775807 < 1 + (decB (-x).toNat).size := by omega
      have hc := Dec_nat (-x).toNat (by omega) w
      rw [show (((-x).toNat : Nat) : Int) = -x by omega] at hc
      have HC := Lib.hid hc
      have hw : wrap64 (-x) = -x := by unfold wrap64; omega
      clear hc h1
      go_enter Tryd.func29, Tryd.ntmps29
      go_wp2_with fail
      refine HC.out.mono ?_
      rintro e1 w1 ⟨rfl, hb1⟩
      go_wp2_with fail
      go_ret
      exact ⟨by rw [HB.out]; rfl, hb1⟩
  · have hc := Dec_nat x.toNat (by omega) w
    rw [show ((x.toNat : Nat) : Int) = x by omega, itoB_pos h0] at hc
    exact hc

theorem joinB_size {xs : List Int} (h : ∀ x ∈ xs, I64 x) : (joinB xs).size ≤ 22 * xs.length := by
  have := join_short (xs := xs) h
  unfold joinB
  show (Lib.join (xs.map Lib.itoa) [32]).toArray.size ≤ _
  simpa using this
theorem joinB_one (xs : List Int) (h : 0 < xs.length) : joinB (xs.take 1) = itoB (nth xs 0) := by
  cases xs with
  | nil => simp at h
  | cons x xs =>
    unfold joinB itoB
    simp [Lib.join_one, nth]
theorem joinB_next (xs : List Int) (k : Nat) (hk : k < xs.length) (h0 : 0 < k) : joinB (xs.take k) ++ ⟨#[32]⟩ ++ itoB (nth xs k) = joinB (xs.take (k + 1)) := by
  unfold joinB itoB
  rw [join_snoc xs k (nth xs k) (nth_get? hk) h0]
  show (⟨_⟩ : ByteArray) ++ ⟨[32].toArray⟩ ++ ⟨_⟩ = _
  rw [add_bytes, add_bytes]

set_option maxRecDepth 100000 in
set_option maxHeartbeats 2000000 in
theorem RefText_any (p : Option Addr) (c : Nat) (xs : List Int) (hl : xs.length ≤ 1000) (w : World) (h : Ints w p xs) :
    Calls Tryd.prog 18 #[.slice p xs.length c] w fun e w' => e = .returned (.string (joinB xs)) ∧ Below w.heap.size w w' := by
  have hn := h.small
  go_enter Tryd.func18, Tryd.ntmps18
  go_wp2_with fail
  go_loopw [3, 4] (fun s i wr => ∃ (k : Nat) (t : ByteArray), k ≤ xs.length ∧ s = .string t ∧ i = .int .i64 k ∧ Hid (t = joinB (xs.take k)) ∧ Below w.heap.size w wr) (fun _ i _ => xs.length - (intOf i).toNat)
  case atStart => exact ⟨0, _, Nat.zero_le _, rfl, rfl, rfl, Below.refl _ _⟩
  case round =>
    obtain ⟨k, t, hk, rfl, rfl, HT, hbr⟩ := hrel
    by_cases hlt : k < xs.length
    · have hi1 : (k : Int) < (xs.length : Int) := by omega
      obtain ⟨b, o, rfl, hb, hc⟩ := (h.keep hbr).at hlt
      have hx := (h.keep hbr).i64 (nth xs k) (nth_mem hlt)
      obtain ⟨x, hx'⟩ : ∃ x, nth xs k = x := ⟨_, rfl⟩
      have HN : Hid (if 0 < k then t ++ ⟨#[32]⟩ ++ itoB x = joinB (xs.take (k + 1)) else t ++ itoB x = joinB (xs.take (k + 1))) := by
        unfold Hid
        split
        · next h0 => rw [← hx', HT.out]; exact joinB_next xs k hlt h0
        · next h0 =>
          obtain rfl : k = 0 := by omega
          rw [← hx', HT.out, joinB_one xs hlt]
          apply ByteArray.ext
          rw [ByteArray.data_append]
          simp [joinB, Lib.join]
      rw [hx'] at hc hx
      have ht : t.size ≤ 22000 := by
        rw [HT.out]
        have := joinB_size (xs := xs.take k) fun y hy => h.i64 y (List.mem_of_mem_take hy)
        rw [List.length_take] at this
        omega
      have ht2 := itoB_size hx
      have n1 : ¬ 9223372036854775807 < t.size + 1 := by omega
      have n2 : ¬ 9223372036854775807 < t.size + 1 + (itoB x).size := by omega
      have n3 : ¬ 9223372036854775807 < t.size + (itoB x).size := by omega
      have HC := Lib.hid (Dec_any x hx wr)
      clear hx hx'
      by_cases h0 : 0 < k
      · have hi0 : (0 : Int) < (k : Int) := by omega
        have HN2 : Hid (t ++ ⟨#[32]⟩ ++ itoB x = joinB (xs.take (k + 1))) := by have := HN.out; rwa [if_pos h0] at this
        clear HN
        go_wp2_with fail
        refine HC.out.mono ?_
        rintro e1 w1 ⟨rfl, hb1⟩
        have hbz := Lib.hid (below_t hbr hb1)
        clear hbr hb1 hc HC
        go_wp2_with fail
        go_roundw
        case rel => exact ⟨k + 1, _, by omega, rfl, by go_num, HN2, hbz.out⟩
        case measure => simp [intOf]; omega
      · have hi0 : ¬ (0 : Int) < (k : Int) := by omega
        have HN2 : Hid (t ++ itoB x = joinB (xs.take (k + 1))) := by have := HN.out; rwa [if_neg h0] at this
        clear HN
        go_wp2_with fail
        refine HC.out.mono ?_
        rintro e1 w1 ⟨rfl, hb1⟩
        have hbz := Lib.hid (below_t hbr hb1)
        clear hbr hb1 hc HC
        go_wp2_with fail
        go_roundw
        case rel => exact ⟨k + 1, _, by omega, rfl, by go_num, HN2, hbz.out⟩
        case measure => simp [intOf]; omega
    · have hi1 : ¬ (k : Int) < (xs.length : Int) := by omega
      have HT2 : Hid (t = joinB xs) := by have := HT.out; rwa [List.take_of_length_le (by omega)] at this
      clear HT
      go_wp2_with fail
      go_ret
      exact ⟨by rw [HT2.out]; rfl, hbr⟩
end Go.Proofs.YtfifjokmhhakkaaDoor
