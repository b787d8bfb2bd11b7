/- The law ArrayCells, walked: it returns true at all arguments and writes nothing that was there. No condition. -/
import Derived.Test.YthkfjdhakbjllaaLaw05b
namespace Go.Proofs.Ythkfjdhakbjllaa
open Go.RowKit Go.Shelf
set_option linter.unusedVariables false

theorem RefAt_is (s d ix : List Int) (n : Int) (b : Bool) (hn : atS s d ix = (n, b)) (ha : arrS s d = 0) (p q r : Option Addr) (c f g : Nat) (w : World) (h : Ints w p s) (h' : Ints w q d) (h'' : Ints w r ix) :
    Calls Try.prog 40 #[.agg #[.slice p s.length c, .slice q d.length f], .slice r ix.length g] w fun e w' => e = .returned (.tuple #[.int .i64 n, .bool b]) ∧ Below w.heap.size w w' := by
  have := RefAt_any p q r c f g s d ix ha w h h' h''
  rw [hn] at this
  exact this

set_option maxHeartbeats 1000000 in
theorem ArrayCells_law (p : Option Addr) (c : Nat) (s : List Int) (q : Option Addr) (f : Nat) (d : List Int) (r : Option Addr) (g : Nat) (ix : List Int) (w : World) (h : Ints w p s) (h' : Ints w q d) (h'' : Ints w r ix) :
    Calls Try.prog 8 #[.agg #[.slice p s.length c, .slice q d.length f], .slice r ix.length g] w fun e w' => e = .returned (.bool true) ∧ Below w.heap.size w w' := by
  have hsm := h''.small
  cases hf : fewS s d 1000 with
  | false =>
    have Hf := Lib.hid hf
    clear hf
    go_enter Try.func8, Try.ntmps8
    go_wp2_with fail
    refine (awake05 _).mono ?_
    rintro e w' ⟨rfl, hb1⟩
    have A := (At2.new w _ (.slice p s.length c) (.slice q d.length f) 43 rfl).keep hb1
    have hA0 := A.c0
    have hA1 := A.c1
    have hb := below_1 hb1
    clear hb1 A
    go_wp2_with fail
    refine (RefFew_is s d 1000 false Hf.out _ _ _ _ _ (h.keep hb) (h'.keep hb)).mono ?_
    rintro e w' ⟨rfl, hb2⟩
    have hb := below_t hb hb2
    clear hb2
    go_wp2_with fail
    refine (awake05 _).mono ?_
    rintro e w' ⟨rfl, hb3⟩
    go_wp2_with fail
    go_ret
    exact ⟨rfl, below_t hb hb3⟩
  | true =>
    have Hf := Lib.hid hf
    clear hf
    by_cases hl : 100 < ix.length
    · go_enter Try.func8, Try.ntmps8
      go_wp2_with fail
      refine (awake05 _).mono ?_
      rintro e w' ⟨rfl, hb1⟩
      have A := (At2.new w _ (.slice p s.length c) (.slice q d.length f) 43 rfl).keep hb1
      have hA0 := A.c0
      have hA1 := A.c1
      have hb := below_1 hb1
      clear hb1 A
      go_wp2_with fail
      refine (RefFew_is s d 1000 true Hf.out _ _ _ _ _ (h.keep hb) (h'.keep hb)).mono ?_
      rintro e w' ⟨rfl, hb2⟩
      have hb := below_t hb hb2
      clear hb2
      go_wp2_with fail
      refine (awake05 _).mono ?_
      rintro e w' ⟨rfl, hb3⟩
      go_wp2_with fail
      go_ret
      exact ⟨rfl, below_t hb hb3⟩
    · obtain ⟨⟨m, b⟩, hm⟩ : ∃ m, atS s d ix = m := ⟨_, rfl⟩
      by_cases hz : arrS s d = 0
      · have Hm := Lib.hid hm
        have Hz := Lib.hid hz
        clear hm hz
        go_enter Try.func8, Try.ntmps8
        go_wp2_with fail
        refine (awake05 _).mono ?_
        rintro e w' ⟨rfl, hb1⟩
        have A := (At2.new w _ (.slice p s.length c) (.slice q d.length f) 43 rfl).keep hb1
        have hA0 := A.c0
        have hA1 := A.c1
        have hb := below_1 hb1
        clear hb1
        go_wp2_with fail
        refine (RefFew_is s d 1000 true Hf.out _ _ _ _ _ (h.keep hb) (h'.keep hb)).mono ?_
        rintro e w' ⟨rfl, hb2⟩
        have A := A.keep hb2
        have hA0 := A.c0
        have hA1 := A.c1
        have hb := below_t hb hb2
        clear hb2
        go_wp2_with fail
        refine (ArrayAt_is s d ix m b Hm.out _ _ _ _ _ _ _ (h.keep hb) (h'.keep hb) (h''.keep hb)).mono ?_
        rintro e w' ⟨rfl, hb3⟩
        have A := A.keep hb3
        have hA0 := A.c0
        have hA1 := A.c1
        have hb := below_t hb hb3
        clear hb3
        go_wp2_with fail
        refine (RefACheck_is s d 0 Hz.out _ _ _ _ _ (h.keep hb) (h'.keep hb)).mono ?_
        rintro e w' ⟨rfl, hb4⟩
        have A := A.keep hb4
        have hA0 := A.c0
        have hA1 := A.c1
        have hb := below_t hb hb4
        clear hb4
        go_wp2_with fail
        refine (RefAt_is s d ix m b Hm.out Hz.out _ _ _ _ _ _ _ (h.keep hb) (h'.keep hb) (h''.keep hb)).mono ?_
        rintro e w' ⟨rfl, hb5⟩
        have hb := below_t hb hb5
        clear hb5
        have e1 : (m == m) = true := by simp
        have e2 : (b == b) = true := by simp
        go_wp2_with fail
        go_ret
        exact ⟨rfl, hb⟩
      · have e : atS s d ix = (0, false) := if_neg fun h => hz h.1
        have Hm := Lib.hid e
        obtain ⟨n, hn⟩ : ∃ n, arrS s d = n := ⟨_, rfl⟩
        rw [hn] at hz
        have hnb : (n != 0) = true := by simp [hz]
        have Hn := Lib.hid hn
        clear hm hn hz e
        go_enter Try.func8, Try.ntmps8
        go_wp2_with fail
        refine (awake05 _).mono ?_
        rintro e w' ⟨rfl, hb1⟩
        have A := (At2.new w _ (.slice p s.length c) (.slice q d.length f) 43 rfl).keep hb1
        have hA0 := A.c0
        have hA1 := A.c1
        have hb := below_1 hb1
        clear hb1
        go_wp2_with fail
        refine (RefFew_is s d 1000 true Hf.out _ _ _ _ _ (h.keep hb) (h'.keep hb)).mono ?_
        rintro e w' ⟨rfl, hb2⟩
        have A := A.keep hb2
        have hA0 := A.c0
        have hA1 := A.c1
        have hb := below_t hb hb2
        clear hb2
        go_wp2_with fail
        refine (ArrayAt_is s d ix 0 false Hm.out _ _ _ _ _ _ _ (h.keep hb) (h'.keep hb) (h''.keep hb)).mono ?_
        rintro e w' ⟨rfl, hb3⟩
        have A := A.keep hb3
        have hA0 := A.c0
        have hA1 := A.c1
        have hb := below_t hb hb3
        clear hb3
        go_wp2_with fail
        refine (RefACheck_is s d n Hn.out _ _ _ _ _ (h.keep hb) (h'.keep hb)).mono ?_
        rintro e w' ⟨rfl, hb4⟩
        have hb := below_t hb hb4
        clear hb4
        go_wp2_with fail
        go_ret
        exact ⟨rfl, hb⟩
end Go.Proofs.Ythkfjdhakbjllaa
