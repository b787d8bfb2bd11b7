/- What the library's functions on slices return at lists of numbers: slices.IndexFunc, ContainsFunc, Index, Contains, at []int. No condition beyond: the slice reads as these numbers, the function value is the predicate named. -/
import Derived.Test.YtjehgcmcphgofaaBase
namespace Go.Proofs.Ytjehgcmcphgofaa
open Go.RowKit Go.Shelf


theorem Index_any (v : Int) (a : Option Addr) (c : Nat) (xs : List Int) (w : World) (h : Ints w a xs) :
    Calls Try.prog 52 #[.slice a xs.length c, .int .i64 v] w fun e w' => e = .returned (.int .i64 (idx (fun x => v == x) xs)) ∧ w = w' := by
  have hn := h.small
  go_enter Try.func52, Try.ntmps52
  go_wp2
  go_loop [8] (fun i => ∃ k : Nat, k ≤ xs.length ∧ i = .int .i64 k ∧ (xs.take k).any (fun x => v == x) = false) (fun i => xs.length - (intOf i).toNat)
  case atStart => exact ⟨0, Nat.zero_le _, rfl, by simp⟩
  case round =>
    obtain ⟨k, hk, rfl, hno⟩ := hrel
    have Hno := Lib.hid hno
    clear hno
    by_cases hlt : k < xs.length
    · obtain ⟨b, off, rfl, -, hc⟩ := h.at hlt
      cases hpx : (v == nth xs k) with
      | true =>
        have Hi := Lib.hid (idx_hit (p := fun x => v == x) hlt Hno.out hpx)
        go_wp2
        go_ret
        exact ⟨ret_int Hi.out.symm, rfl⟩
      | false =>
        have Hi := Lib.hid (any_take_succ (p := fun x => v == x) hlt Hno.out hpx)
        go_wp2
        go_round
        case rel => exact ⟨k + 1, by omega, by go_num, Hi.out⟩
        case measure => simp [intOf]; omega
    · go_wp2
      go_ret
      have e : xs.take k = xs := List.take_of_length_le (by omega)
      have := Hno.out
      rw [e] at this
      exact ⟨ret_int (idx_miss this).symm, rfl⟩

theorem Contains_any (v : Int) (a : Option Addr) (c : Nat) (xs : List Int) (w : World) (h : Ints w a xs) :
    Calls Try.prog 44 #[.slice a xs.length c, .int .i64 v] w fun e w' => e = .returned (.bool (xs.any fun x => v == x)) ∧ w = w' := by
  have Hi := Lib.hid (idx_any (fun x => v == x) xs)
  go_enter Try.func44, Try.ntmps44
  go_wp2_with fail
  refine (Index_any v a c xs _ h).mono ?_
  rintro e w' ⟨rfl, rfl⟩
  go_wp2_with fail
  go_ret
  exact ⟨ret_bool Hi.out, rfl⟩
end Go.Proofs.Ytjehgcmcphgofaa
