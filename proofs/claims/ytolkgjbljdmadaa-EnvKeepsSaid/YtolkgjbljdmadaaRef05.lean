/- What array.Equal and At return, and the reference's Check, At, Equal, Few of layer 5; the reference's Small of layer 2. -/
import Derived.Test.YtolkgjbljdmadaaArray2
namespace Go.Proofs.Ytolkgjbljdmadaa
open Go.RowKit Go.Shelf
set_option linter.unusedVariables false

/-- whether two arrays are one -/
def aeqS (s d t e : List Int) : Bool := eqS s t && eqS d e

theorem Ints.a2 {w : World} {p : Option Addr} {xs : List Int} (h : Ints w p xs) (o o' : Obj) : Ints ((w.alloc o).alloc o') p xs := h.keep (below_two w o o')

theorem RefACheck_any (p q : Option Addr) (c f : Nat) (s d : List Int) (w : World) (h : Ints w p s) (h' : Ints w q d) :
    Calls Try.prog 30 #[.agg #[.slice p s.length c, .slice q d.length f]] w fun e w' => e = .returned (.int .i64 (arrS s d)) ∧ Below w.heap.size w w' := by
  have hn := h'.small
  by_cases hz : shapeS s = 0
  · by_cases hc : (d.length : Int) = cellsS s
    · have e : arrS s d = 0 := by unfold arrS; rw [if_pos hz, if_pos hc]
      rw [e]
      have hcb : ((d.length : Int) != cellsS s) = false := by simp [hc]
      clear e hc
      go_enter Try.func30, Try.ntmps30
      go_wp2_with fail
      refine (RefCheck_is s 0 hz _ _ _ (h.keep (below_alloc _ _))).mono ?_
      rintro e w' ⟨rfl, rfl⟩
      go_wp2_with fail
      go_quiet ((go_at_call 57; exact quiet_left (RefCells_any _ _ _ _ (Ints.drew (h.keep (below_alloc _ _)) _))))
      go_wp2_with fail
      go_ret
      exact ⟨rfl, (below_alloc _ _).trans (below_drewN _ _ _)⟩
    · have e : arrS s d = 5 := by unfold arrS; rw [if_pos hz, if_neg hc]
      rw [e]
      have hcb : ((d.length : Int) != cellsS s) = true := by simp [hc]
      clear e hc
      go_enter Try.func30, Try.ntmps30
      go_wp2_with fail
      refine (RefCheck_is s 0 hz _ _ _ (h.keep (below_alloc _ _))).mono ?_
      rintro e w' ⟨rfl, rfl⟩
      go_wp2_with fail
      go_quiet ((go_at_call 57; exact quiet_left (RefCells_any _ _ _ _ (Ints.drew (h.keep (below_alloc _ _)) _))))
      go_wp2_with fail
      go_ret
      exact ⟨rfl, (below_alloc _ _).trans (below_drewN _ _ _)⟩
  · have e : arrS s d = shapeS s := if_neg hz
    rw [e]
    have hzb : (shapeS s == 0) = false := by simp [hz]
    clear e
    go_enter Try.func30, Try.ntmps30
    go_wp2_with fail
    refine (RefCheck_any _ _ _ _ (h.keep (below_alloc _ _))).mono ?_
    rintro e w' ⟨rfl, rfl⟩
    go_wp2_with fail
    go_quiet (fail)
    go_wp2_with fail
    go_ret
    exact ⟨rfl, (below_alloc _ _).trans (below_drewN _ _ _)⟩

theorem RefFew_any (p q : Option Addr) (c f : Nat) (s d : List Int) (n : Int) (w : World) (h : Ints w p s) (h' : Ints w q d) :
    Calls Try.prog 24 #[.agg #[.slice p s.length c, .slice q d.length f], .int .i64 n] w fun e w' => e = .returned (.bool (decide (s.length ≤ 100) && decide ((d.length : Int) ≤ n))) ∧ Below w.heap.size w w' := by
  have hn := h.small
  have hn' := h'.small
  by_cases h1 : s.length ≤ 100
  · have hd : decide ((s.length : Int) ≤ 100) = true := by simp; omega
    have H : Hid ((decide (s.length ≤ 100) && decide ((d.length : Int) ≤ n)) = decide ((d.length : Int) ≤ n)) := by simp [Hid, h1]
    go_enter Try.func24, Try.ntmps24
    go_wp2
    go_ret
    exact ⟨ret_bool H.out.symm, below_alloc _ _⟩
  · have hd : decide ((s.length : Int) ≤ 100) = false := by simp; omega
    have H : Hid ((decide (s.length ≤ 100) && decide ((d.length : Int) ≤ n)) = false) := by simp [Hid, h1]
    go_enter Try.func24, Try.ntmps24
    go_wp2
    go_ret
    exact ⟨ret_bool H.out.symm, below_alloc _ _⟩

set_option maxHeartbeats 2000000 in
theorem RefAEqual_any (p q p' q' : Option Addr) (c f c' f' : Nat) (s d t e : List Int) (w : World) (h1 : Ints w p s) (h2 : Ints w q d) (h3 : Ints w p' t) (h4 : Ints w q' e) :
    Calls Try.prog 35 #[.agg #[.slice p s.length c, .slice q d.length f], .agg #[.slice p' t.length c', .slice q' e.length f']] w fun r w' => r = .returned (.bool (aeqS s d t e)) ∧ Below w.heap.size w w' := by
  have hn2 := h2.small
  have hn4 := h4.small
  cases hs : eqS s t with
  | false =>
    have H : Hid (aeqS s d t e = false) := by simp [Hid, aeqS, hs]
    go_enter Try.func35, Try.ntmps35
    go_wp2_with fail
    refine (RefEqual_is s t false hs _ _ _ _ _ (h1.a2 _ _) (h3.a2 _ _)).mono ?_
    rintro e w' ⟨rfl, hb1⟩
    go_wp2_with fail
    go_ret
    exact ⟨ret_bool H.out.symm, below_2 hb1⟩
  | true =>
    have H : Hid (aeqS s d t e = eqS d e) := by simp [Hid, aeqS, hs]
    by_cases hlen : d.length = e.length
    · have hlb : ((d.length : Int) != (e.length : Int)) = false := by simp [hlen]
      have Hlen := Lib.hid hlen
      have hle : d.length ≤ e.length := by omega
      have hge : e.length ≤ d.length := by omega
      clear hlen
      go_enter Try.func35, Try.ntmps35
      go_wp2_with fail
      refine (RefEqual_is s t true hs _ _ _ _ _ (h1.a2 _ _) (h3.a2 _ _)).mono ?_
      rintro e1 w1 ⟨rfl, hb1⟩
      have hx1 := hb1.cell (p := ⟨w.heap.size, 1, none⟩) (lt_a0 _ _ _)
      have hx2 := hb1.cell (p := ⟨w.heap.size + 1, 1, none⟩) (lt_a1 _ _ _)
      simp [go_sem] at hx1 hx2
      have hb := below_2 hb1
      clear hb1
      go_wp2_with fail
      go_loopw [5] (fun i wr => ∃ k m : Nat, k ≤ d.length ∧ i = .int .i64 k ∧ wr = w1.drewN m ∧ Hid (d.take k = e.take k)) (fun i _ => d.length - (intOf i).toNat)
      case atStart => exact ⟨0, 0, Nat.zero_le _, rfl, rfl, by simp [Hid]⟩
      case round =>
        obtain ⟨k, m, hk, rfl, rfl, hI⟩ := hrel
        by_cases hlt : k < d.length
        · have hlt' : k < e.length := by omega
          obtain ⟨b1, o1, rfl, -, hc⟩ := (h2.keep hb).at hlt
          obtain ⟨b2, o2, rfl, -, hc'⟩ := (h4.keep hb).at hlt'
          have hi1 : (k : Int) < (d.length : Int) := by omega
          have hi2 : (k : Int) < (e.length : Int) := by omega
          by_cases hx : nth d k = nth e k
          · have hxb : (nth d k != nth e k) = false := by simp [hx]
            have Hx := Lib.hid hx
            clear hx
            have Hi : Hid (d.take (k + 1) = e.take (k + 1)) := by unfold Hid; rw [take_nth hlt, take_nth hlt', hI.out, Hx.out]
            go_wp2
            go_quiet (fail)
            go_wp2
            go_roundw
            case rel => exact ⟨k + 1, _, by omega, by go_num, rfl, Hi⟩
            case measure => simp [intOf]; omega
          · have hxb : (nth d k != nth e k) = true := by simp [hx]
            have Hi : Hid (eqS d e = false) := by
              unfold Hid eqS
              rw [decide_eq_false_iff_not]
              rintro rfl
              exact hx rfl
            clear hx
            go_wp2
            go_quiet (fail)
            go_wp2
            go_ret
            exact ⟨ret_bool (H.out.trans Hi.out).symm, (hb.trans ((below_drewN _ _ _).mono hb.size)).trans ((below_drewN _ _ _))⟩
        · have Hi : Hid (eqS d e = true) := by
            have := hI.out
            rw [List.take_of_length_le (by omega), List.take_of_length_le (by omega)] at this
            simp [Hid, eqS, this]
          go_wp2
          go_ret
          exact ⟨ret_bool (H.out.trans Hi.out).symm, hb.trans ((below_drewN _ _ _).mono hb.size)⟩
    · have hlb : ((d.length : Int) != (e.length : Int)) = true := by simp; omega
      have Hi : Hid (eqS d e = false) := by
        unfold Hid eqS
        rw [decide_eq_false_iff_not]
        rintro rfl
        exact hlen rfl
      go_enter Try.func35, Try.ntmps35
      go_wp2_with fail
      refine (RefEqual_is s t true hs _ _ _ _ _ (h1.a2 _ _) (h3.a2 _ _)).mono ?_
      rintro e w' ⟨rfl, hb1⟩
      have hx1 := hb1.cell (p := ⟨w.heap.size, 1, none⟩) (lt_a0 _ _ _)
      have hx2 := hb1.cell (p := ⟨w.heap.size + 1, 1, none⟩) (lt_a1 _ _ _)
      simp [go_sem] at hx1 hx2
      have hb := below_2 hb1
      clear hb1
      go_wp2_with fail
      go_ret
      exact ⟨ret_bool (H.out.trans Hi.out).symm, hb⟩

end Go.Proofs.Ytolkgjbljdmadaa
