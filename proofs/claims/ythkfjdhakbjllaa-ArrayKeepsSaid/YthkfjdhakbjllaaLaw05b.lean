/- The laws ArrayChecks and ArrayCells, walked: each returns true at all arguments and writes nothing that was there. No condition. -/
import Derived.Test.YthkfjdhakbjllaaLaw05
namespace Go.Proofs.Ythkfjdhakbjllaa
open Go.RowKit Go.Shelf
set_option linter.unusedVariables false

def fewS (s d : List Int) (n : Int) : Bool := decide (s.length ≤ 100) && decide ((d.length : Int) ≤ n)
theorem RefFew_is (s d : List Int) (n : Int) (b : Bool) (hb : fewS s d n = b) (p q : Option Addr) (c f : Nat) (w : World) (h : Ints w p s) (h' : Ints w q d) :
    Calls Try.prog 34 #[.agg #[.slice p s.length c, .slice q d.length f], .int .i64 n] w fun e w' => e = .returned (.bool b) ∧ Below w.heap.size w w' := hb ▸ RefFew_any p q c f s d n w h h'
theorem fewS_bd {s d : List Int} {n : Int} (h : fewS s d n = true) : s.length ≤ 100 ∧ (d.length : Int) ≤ n := by
  unfold fewS at h
  rw [Bool.and_eq_true] at h
  exact ⟨of_decide_eq_true h.1, of_decide_eq_true h.2⟩
theorem aeqS_self (s d : List Int) : aeqS s d s d = true := by simp [aeqS, eqS]

set_option maxHeartbeats 1000000 in
theorem ArrayChecks_law (p : Option Addr) (c : Nat) (s : List Int) (q : Option Addr) (f : Nat) (d : List Int) (w : World) (h : Ints w p s) (h' : Ints w q d) :
    Calls Try.prog 7 #[.agg #[.slice p s.length c, .slice q d.length f]] w fun e w' => e = .returned (.bool true) ∧ Below w.heap.size w w' := by
  cases hf : fewS s d 70000 with
  | false =>
    have Hf := Lib.hid hf
    clear hf
    go_enter Try.func7, Try.ntmps7
    go_wp2_with fail
    refine (awake05 _).mono ?_
    rintro e w' ⟨rfl, hb1⟩
    have A := (At2.new w _ (.slice p s.length c) (.slice q d.length f) 43 rfl).keep hb1
    have hA0 := A.c0
    have hA1 := A.c1
    have hb := below_1 hb1
    clear hb1 A
    go_wp2_with fail
    refine (RefFew_is s d 70000 false Hf.out _ _ _ _ _ (h.keep hb) (h'.keep hb)).mono ?_
    rintro e w' ⟨rfl, hb2⟩
    have hb := below_t hb hb2
    clear hb2
    go_wp2_with fail
    refine (awake05 _).mono ?_
    rintro e w' ⟨rfl, hb3⟩
    go_wp2_with fail
    go_ret
    exact ⟨rfl, below_t hb hb3⟩
  | true =>
    obtain ⟨l1, l2⟩ := fewS_bd hf
    have l2' : d.length ≤ 1099511627776 := by omega
    have Hf := Lib.hid hf
    clear hf
    by_cases hz : arrS s d = 0
    · go_enter Try.func7, Try.ntmps7
      go_wp2_with fail
      refine (awake05 _).mono ?_
      rintro e w' ⟨rfl, hb1⟩
      have A := (At2.new w _ (.slice p s.length c) (.slice q d.length f) 43 rfl).keep hb1
      have hA0 := A.c0
      have hA1 := A.c1
      have hb := below_1 hb1
      clear hb1
      go_wp2_with fail
      refine (RefFew_is s d 70000 true Hf.out _ _ _ _ _ (h.keep hb) (h'.keep hb)).mono ?_
      rintro e w' ⟨rfl, hb2⟩
      have A := A.keep hb2
      have hA0 := A.c0
      have hA1 := A.c1
      have hb := below_t hb hb2
      clear hb2
      go_wp2_with fail
      refine (ArrayNew_ok s d hz _ _ _ _ _ (h.keep hb) (h'.keep hb) (by omega) l2').mono ?_
      rintro e w' ⟨⟨p', c', q', f', rfl, hi1, hi2⟩, hb3⟩
      have A := A.keep (below_t hb3 (below_alloc _ (.cells #[.slice p' s.length c', .slice q' d.length f'] 43)))
      have hA0 := A.c0
      have hA1 := A.c1
      have B := At2.new w' _ (.slice p' s.length c') (.slice q' d.length f') 43 rfl
      have hi1 := hi1.keep (below_alloc _ (.cells #[.slice p' s.length c', .slice q' d.length f'] 43))
      have hi2 := hi2.keep (below_alloc _ (.cells #[.slice p' s.length c', .slice q' d.length f'] 43))
      have hb := below_t (below_t hb hb3) (below_alloc _ (.cells #[.slice p' s.length c', .slice q' d.length f'] 43))
      clear hb3
      go_wp2_with fail
      refine (RefACheck_is s d 0 hz _ _ _ _ _ (h.keep hb) (h'.keep hb)).mono ?_
      rintro e w' ⟨rfl, hb4⟩
      have A := A.keep hb4
      have hA0 := A.c0
      have hA1 := A.c1
      have B := B.keep hb4
      have hi1 := hi1.keep hb4
      have hi2 := hi2.keep hb4
      have hb := below_t hb hb4
      clear hb4
      go_wp2_with fail
      refine (ArrayCheck_is s d 0 hz _ _ _ _ _ (h.keep hb) (h'.keep hb)).mono ?_
      rintro e w' ⟨rfl, hb5⟩
      have A := A.keep hb5
      have hA0 := A.c0
      have hA1 := A.c1
      have B := B.keep hb5
      have hB0 := B.c0
      have hB1 := B.c1
      have hi1 := hi1.keep hb5
      have hi2 := hi2.keep hb5
      have hb := below_t hb hb5
      clear hb5
      go_wp2_with fail
      refine (RefAEqual_is s d s d true (aeqS_self s d) _ _ _ _ _ _ _ _ _ hi1 hi2 (h.keep hb) (h'.keep hb)).mono ?_
      rintro e w' ⟨rfl, hb6⟩
      go_wp2_with fail
      go_ret
      exact ⟨rfl, below_t hb hb6⟩
    · obtain ⟨n, hn⟩ : ∃ n, arrS s d = n := ⟨_, rfl⟩
      rw [hn] at hz
      have hnb : (n != 0) = true := by simp [hz]
      have hnn : (n != n) = false := by simp
      have Hn := Lib.hid hn
      have Hz := Lib.hid hz
      clear hn hz
      go_enter Try.func7, Try.ntmps7
      go_wp2_with fail
      refine (awake05 _).mono ?_
      rintro e w' ⟨rfl, hb1⟩
      have A := (At2.new w _ (.slice p s.length c) (.slice q d.length f) 43 rfl).keep hb1
      have hA0 := A.c0
      have hA1 := A.c1
      have hb := below_1 hb1
      clear hb1
      go_wp2_with fail
      refine (RefFew_is s d 70000 true Hf.out _ _ _ _ _ (h.keep hb) (h'.keep hb)).mono ?_
      rintro e w' ⟨rfl, hb2⟩
      have A := A.keep hb2
      have hA0 := A.c0
      have hA1 := A.c1
      have hb := below_t hb hb2
      clear hb2
      go_wp2_with fail
      refine (ArrayNew_no s d n Hn.out Hz.out _ _ _ _ _ (h.keep hb) (h'.keep hb) (by omega) l2').mono ?_
      rintro e w' ⟨⟨p', c', q', f', rfl, hi1, hi2⟩, hb3⟩
      have A := A.keep (below_t hb3 (below_alloc _ (.cells #[.slice p' 0 c', .slice q' 0 f'] 43)))
      have hA0 := A.c0
      have hA1 := A.c1
      have B := At2.new w' _ (.slice p' 0 c') (.slice q' 0 f') 43 rfl
      have hi1 := hi1.keep (below_alloc _ (.cells #[.slice p' 0 c', .slice q' 0 f'] 43))
      have hi2 := hi2.keep (below_alloc _ (.cells #[.slice p' 0 c', .slice q' 0 f'] 43))
      have hb := below_t (below_t hb hb3) (below_alloc _ (.cells #[.slice p' 0 c', .slice q' 0 f'] 43))
      clear hb3
      go_wp2_with fail
      refine (RefACheck_is s d n Hn.out _ _ _ _ _ (h.keep hb) (h'.keep hb)).mono ?_
      rintro e w' ⟨rfl, hb4⟩
      have A := A.keep hb4
      have hA0 := A.c0
      have hA1 := A.c1
      have B := B.keep hb4
      have hi1 := hi1.keep hb4
      have hi2 := hi2.keep hb4
      have hb := below_t hb hb4
      clear hb4
      go_wp2_with fail
      refine (ArrayCheck_is s d n Hn.out _ _ _ _ _ (h.keep hb) (h'.keep hb)).mono ?_
      rintro e w' ⟨rfl, hb5⟩
      have B := B.keep hb5
      have hB0 := B.c0
      have hB1 := B.c1
      have hi1 := hi1.keep hb5
      have hi2 := hi2.keep hb5
      have hb := below_t hb hb5
      clear hb5
      go_wp2_with fail
      refine (RefAEqual_is [] [] [] [] true (by decide) _ _ _ _ _ _ _ _ _ hi1 hi2 (Ints.nil _) (Ints.nil _)).mono ?_
      rintro e w' ⟨rfl, hb6⟩
      go_wp2_with fail
      go_ret
      exact ⟨rfl, below_t hb hb6⟩
end Go.Proofs.Ythkfjdhakbjllaa
