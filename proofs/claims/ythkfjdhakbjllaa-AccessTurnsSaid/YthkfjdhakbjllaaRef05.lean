/- What array.Equal and At return, and the reference's Check, At, Equal, Few of layer 5; the reference's Small of layer 2. -/
import Derived.Test.YthkfjdhakbjllaaArray3
namespace Go.Proofs.Ythkfjdhakbjllaa
open Go.RowKit Go.Shelf
set_option linter.unusedVariables false

theorem SlicesEqual_is (xs ys : List Int) (r : Bool) (hr : eqS xs ys = r) (a b : Option Addr) (c d : Nat) (w : World) (h : Ints w a xs) (h' : Ints w b ys) :
    Calls Try.prog 82 #[.slice a xs.length c, .slice b ys.length d] w fun e w' => e = .returned (.bool r) ∧ Below w.heap.size w w' :=
  (ShapeEqual_any a b c d xs ys w h h').mono fun e w' ⟨he, n, hw⟩ => ⟨by rw [he, hr], hw ▸ below_drewN _ _ _⟩
theorem SlicesEqual64_is (xs ys : List Int) (r : Bool) (hr : eqS xs ys = r) (a b : Option Addr) (c d : Nat) (w : World) (h : Ints w a xs) (h' : Ints w b ys) :
    Calls Try.prog 83 #[.slice a xs.length c, .slice b ys.length d] w fun e w' => e = .returned (.bool r) ∧ Below w.heap.size w w' :=
  (SlicesEqual64_any a b c d xs ys w h h').mono fun e w' ⟨he, n, hw⟩ => ⟨by rw [he, hr], hw ▸ below_drewN _ _ _⟩

/-- whether two arrays are one -/
def aeqS (s d t e : List Int) : Bool := eqS s t && eqS d e

theorem Ints.a2 {w : World} {p : Option Addr} {xs : List Int} (h : Ints w p xs) (o o' : Obj) : Ints ((w.alloc o).alloc o') p xs := h.keep (below_two w o o')

set_option maxHeartbeats 1000000 in
theorem ArrayEqual_any (p q p' q' : Option Addr) (c f c' f' : Nat) (s d t e : List Int) (w : World) (h1 : Ints w p s) (h2 : Ints w q d) (h3 : Ints w p' t) (h4 : Ints w q' e) :
    Calls Try.prog 42 #[.agg #[.slice p s.length c, .slice q d.length f], .agg #[.slice p' t.length c', .slice q' e.length f']] w fun r w' => r = .returned (.bool (aeqS s d t e)) ∧ Below w.heap.size w w' := by
  cases hs : eqS s t with
  | false =>
    have H : Hid (aeqS s d t e = false) := by simp [Hid, aeqS, hs]
    go_enter Try.func42, Try.ntmps42
    go_wp2_with fail
    refine (SlicesEqual_is s t false hs _ _ _ _ _ (h1.a2 _ _) (h3.a2 _ _)).mono ?_
    rintro e w' ⟨rfl, hb1⟩
    go_wp2_with fail
    go_ret
    exact ⟨ret_bool H.out.symm, below_2 hb1⟩
  | true =>
    have H : Hid (aeqS s d t e = eqS d e) := by simp [Hid, aeqS, hs]
    go_enter Try.func42, Try.ntmps42
    go_wp2_with fail
    refine (SlicesEqual_is s t true hs _ _ _ _ _ (h1.a2 _ _) (h3.a2 _ _)).mono ?_
    rintro e w' ⟨rfl, hb1⟩
    have hx1 := hb1.cell (p := ⟨w.heap.size, 1, none⟩) (lt_a0 _ _ _)
    have hx2 := hb1.cell (p := ⟨w.heap.size + 1, 1, none⟩) (lt_a1 _ _ _)
    simp [go_sem] at hx1 hx2
    have hb := below_2 hb1
    clear hb1
    go_wp2_with fail
    refine (SlicesEqual64_is d e _ rfl _ _ _ _ _ (h2.keep hb) (h4.keep hb)).mono ?_
    rintro e w' ⟨rfl, hb2⟩
    go_wp2_with fail
    go_ret
    exact ⟨ret_bool H.out.symm, below_t hb hb2⟩

theorem RefACheck_any (p q : Option Addr) (c f : Nat) (s d : List Int) (w : World) (h : Ints w p s) (h' : Ints w q d) :
    Calls Try.prog 36 #[.agg #[.slice p s.length c, .slice q d.length f]] w fun e w' => e = .returned (.int .i64 (arrS s d)) ∧ Below w.heap.size w w' := by
  have hn := h'.small
  by_cases hz : shapeS s = 0
  · by_cases hc : (d.length : Int) = cellsS s
    · have e : arrS s d = 0 := by unfold arrS; rw [if_pos hz, if_pos hc]
      rw [e]
      have hcb : ((d.length : Int) != cellsS s) = false := by simp [hc]
      clear e hc
      go_enter Try.func36, Try.ntmps36
      go_wp2_with fail
      refine (RefCheck_is s 0 hz _ _ _ (h.keep (below_alloc _ _))).mono ?_
      rintro e w' ⟨rfl, rfl⟩
      go_wp2_with fail
      go_quiet ((go_at_call 32; exact quiet_left (RefCells_any _ _ _ _ (Ints.drew (h.keep (below_alloc _ _)) _))))
      go_wp2_with fail
      go_ret
      exact ⟨rfl, (below_alloc _ _).trans (below_drewN _ _ _)⟩
    · have e : arrS s d = 5 := by unfold arrS; rw [if_pos hz, if_neg hc]
      rw [e]
      have hcb : ((d.length : Int) != cellsS s) = true := by simp [hc]
      clear e hc
      go_enter Try.func36, Try.ntmps36
      go_wp2_with fail
      refine (RefCheck_is s 0 hz _ _ _ (h.keep (below_alloc _ _))).mono ?_
      rintro e w' ⟨rfl, rfl⟩
      go_wp2_with fail
      go_quiet ((go_at_call 32; exact quiet_left (RefCells_any _ _ _ _ (Ints.drew (h.keep (below_alloc _ _)) _))))
      go_wp2_with fail
      go_ret
      exact ⟨rfl, (below_alloc _ _).trans (below_drewN _ _ _)⟩
  · have e : arrS s d = shapeS s := if_neg hz
    rw [e]
    have hzb : (shapeS s == 0) = false := by simp [hz]
    clear e
    go_enter Try.func36, Try.ntmps36
    go_wp2_with fail
    refine (RefCheck_any _ _ _ _ (h.keep (below_alloc _ _))).mono ?_
    rintro e w' ⟨rfl, rfl⟩
    go_wp2_with fail
    go_quiet (fail)
    go_wp2_with fail
    go_ret
    exact ⟨rfl, (below_alloc _ _).trans (below_drewN _ _ _)⟩

theorem RefFew_any (p q : Option Addr) (c f : Nat) (s d : List Int) (n : Int) (w : World) (h : Ints w p s) (h' : Ints w q d) :
    Calls Try.prog 34 #[.agg #[.slice p s.length c, .slice q d.length f], .int .i64 n] w fun e w' => e = .returned (.bool (decide (s.length ≤ 100) && decide ((d.length : Int) ≤ n))) ∧ Below w.heap.size w w' := by
  have hn := h.small
  have hn' := h'.small
  by_cases h1 : s.length ≤ 100
  · have hd : decide ((s.length : Int) ≤ 100) = true := by simp; omega
    have H : Hid ((decide (s.length ≤ 100) && decide ((d.length : Int) ≤ n)) = decide ((d.length : Int) ≤ n)) := by simp [Hid, h1]
    go_enter Try.func34, Try.ntmps34
    go_wp2
    go_ret
    exact ⟨ret_bool H.out.symm, below_alloc _ _⟩
  · have hd : decide ((s.length : Int) ≤ 100) = false := by simp; omega
    have H : Hid ((decide (s.length ≤ 100) && decide ((d.length : Int) ≤ n)) = false) := by simp [Hid, h1]
    go_enter Try.func34, Try.ntmps34
    go_wp2
    go_ret
    exact ⟨ret_bool H.out.symm, below_alloc _ _⟩

set_option maxHeartbeats 2000000 in
theorem RefAEqual_any (p q p' q' : Option Addr) (c f c' f' : Nat) (s d t e : List Int) (w : World) (h1 : Ints w p s) (h2 : Ints w q d) (h3 : Ints w p' t) (h4 : Ints w q' e) :
    Calls Try.prog 38 #[.agg #[.slice p s.length c, .slice q d.length f], .agg #[.slice p' t.length c', .slice q' e.length f']] w fun r w' => r = .returned (.bool (aeqS s d t e)) ∧ Below w.heap.size w w' := by
  have hn2 := h2.small
  have hn4 := h4.small
  cases hs : eqS s t with
  | false =>
    have H : Hid (aeqS s d t e = false) := by simp [Hid, aeqS, hs]
    go_enter Try.func38, Try.ntmps38
    go_wp2_with fail
    refine (RefEqual_is s t false hs _ _ _ _ _ (h1.a2 _ _) (h3.a2 _ _)).mono ?_
    rintro e w' ⟨rfl, hb1⟩
    go_wp2_with fail
    go_ret
    exact ⟨ret_bool H.out.symm, below_2 hb1⟩
  | true =>
    have H : Hid (aeqS s d t e = eqS d e) := by simp [Hid, aeqS, hs]
    by_cases hlen : d.length = e.length
    · have hlb : ((d.length : Int) != (e.length : Int)) = false := by simp [hlen]
      have Hlen := Lib.hid hlen
      have hle : d.length ≤ e.length := by omega
      have hge : e.length ≤ d.length := by omega
      clear hlen
      go_enter Try.func38, Try.ntmps38
      go_wp2_with fail
      refine (RefEqual_is s t true hs _ _ _ _ _ (h1.a2 _ _) (h3.a2 _ _)).mono ?_
      rintro e1 w1 ⟨rfl, hb1⟩
      have hx1 := hb1.cell (p := ⟨w.heap.size, 1, none⟩) (lt_a0 _ _ _)
      have hx2 := hb1.cell (p := ⟨w.heap.size + 1, 1, none⟩) (lt_a1 _ _ _)
      simp [go_sem] at hx1 hx2
      have hb := below_2 hb1
      clear hb1
      go_wp2_with fail
      go_loopw [5] (fun i wr => ∃ k m : Nat, k ≤ d.length ∧ i = .int .i64 k ∧ wr = w1.drewN m ∧ Hid (d.take k = e.take k)) (fun i _ => d.length - (intOf i).toNat)
      case atStart => exact ⟨0, 0, Nat.zero_le _, rfl, rfl, by simp [Hid]⟩
      case round =>
        obtain ⟨k, m, hk, rfl, rfl, hI⟩ := hrel
        by_cases hlt : k < d.length
        · have hlt' : k < e.length := by omega
          obtain ⟨b1, o1, rfl, -, hc⟩ := (h2.keep hb).at hlt
          obtain ⟨b2, o2, rfl, -, hc'⟩ := (h4.keep hb).at hlt'
          have hi1 : (k : Int) < (d.length : Int) := by omega
          have hi2 : (k : Int) < (e.length : Int) := by omega
          by_cases hx : nth d k = nth e k
          · have hxb : (nth d k != nth e k) = false := by simp [hx]
            have Hx := Lib.hid hx
            clear hx
            have Hi : Hid (d.take (k + 1) = e.take (k + 1)) := by unfold Hid; rw [take_nth hlt, take_nth hlt', hI.out, Hx.out]
            go_wp2
            go_quiet (fail)
            go_wp2
            go_roundw
            case rel => exact ⟨k + 1, _, by omega, by go_num, rfl, Hi⟩
            case measure => simp [intOf]; omega
          · have hxb : (nth d k != nth e k) = true := by simp [hx]
            have Hi : Hid (eqS d e = false) := by
              unfold Hid eqS
              rw [decide_eq_false_iff_not]
              rintro rfl
              exact hx rfl
            clear hx
            go_wp2
            go_quiet (fail)
            go_wp2
            go_ret
            exact ⟨ret_bool (H.out.trans Hi.out).symm, (hb.trans ((below_drewN _ _ _).mono hb.size)).trans ((below_drewN _ _ _))⟩
        · have Hi : Hid (eqS d e = true) := by
            have := hI.out
            rw [List.take_of_length_le (by omega), List.take_of_length_le (by omega)] at this
            simp [Hid, eqS, this]
          go_wp2
          go_ret
          exact ⟨ret_bool (H.out.trans Hi.out).symm, hb.trans ((below_drewN _ _ _).mono hb.size)⟩
    · have hlb : ((d.length : Int) != (e.length : Int)) = true := by simp; omega
      have Hi : Hid (eqS d e = false) := by
        unfold Hid eqS
        rw [decide_eq_false_iff_not]
        rintro rfl
        exact hlen rfl
      go_enter Try.func38, Try.ntmps38
      go_wp2_with fail
      refine (RefEqual_is s t true hs _ _ _ _ _ (h1.a2 _ _) (h3.a2 _ _)).mono ?_
      rintro e w' ⟨rfl, hb1⟩
      have hx1 := hb1.cell (p := ⟨w.heap.size, 1, none⟩) (lt_a0 _ _ _)
      have hx2 := hb1.cell (p := ⟨w.heap.size + 1, 1, none⟩) (lt_a1 _ _ _)
      simp [go_sem] at hx1 hx2
      have hb := below_2 hb1
      clear hb1
      go_wp2_with fail
      go_ret
      exact ⟨ret_bool (H.out.trans Hi.out).symm, hb⟩

/-- the cell of an array at an index: 0 and false where there is none -/
def atS (s d ix : List Int) : Int × Bool := if arrS s d = 0 ∧ Valid s ix then (nth d (offS s ix).toNat, true) else (0, false)

theorem at_bd {s d ix : List Int} (ha : arrS s d = 0) (hv : Valid s ix) : shapeS s = 0 ∧ 0 ≤ offS s ix ∧ offS s ix < d.length ∧ (offS s ix).toNat < d.length := by
  have hz : shapeS s = 0 := by
    unfold arrS at ha
    by_cases hz : shapeS s = 0
    · exact hz
    · rw [if_neg hz] at ha
      exact absurd ha hz
  unfold arrS at ha
  rw [if_pos hz] at ha
  have hl : (d.length : Int) = cellsS s := by
    by_cases hl : (d.length : Int) = cellsS s
    · exact hl
    · rw [if_neg hl] at ha
      simp at ha
  obtain ⟨h1, h2⟩ := off_bd s ix hv
  obtain ⟨-, hc⟩ := (shapeS_zero.1 hz).prod_le hv
  unfold offS
  rw [if_pos hv]
  omega

set_option maxHeartbeats 1000000 in
theorem ArrayAt_any (p q r : Option Addr) (c f g : Nat) (s d ix : List Int) (w : World) (h : Ints w p s) (h' : Ints w q d) (h'' : Ints w r ix) :
    Calls Try.prog 39 #[.agg #[.slice p s.length c, .slice q d.length f], .slice r ix.length g] w fun e w' => e = .returned (.tuple #[.int .i64 (atS s d ix).1, .bool (atS s d ix).2]) ∧ Below w.heap.size w w' := by
  by_cases ha : arrS s d = 0
  · by_cases hv : Valid s ix
    · obtain ⟨hz, h1, h2, h3⟩ := at_bd ha hv
      have e : atS s d ix = (nth d (offS s ix).toNat, true) := if_pos ⟨ha, hv⟩
      rw [e]
      obtain ⟨o, ho⟩ : ∃ o, offS s ix = o := ⟨_, rfl⟩
      rw [ho] at h1 h2 h3 ⊢
      have Ho := Lib.hid ho
      have Hv := Lib.hid (decide_eq_true hv)
      obtain ⟨k, rfl⟩ := Int.eq_ofNat_of_zero_le h1
      rw [Int.toNat_natCast] at h3 ⊢
      clear e ho hv h1
      go_enter Try.func39, Try.ntmps39
      go_wp2_with fail
      refine (ArrayCheck_is s d 0 ha _ _ _ _ _ (h.keep (below_alloc _ _)) (h'.keep (below_alloc _ _))).mono ?_
      rintro e w' ⟨rfl, hb1⟩
      have hx1 := hb1.cell (p := ⟨w.heap.size, 0, none⟩) (by simp)
      have hx2 := hb1.cell (p := ⟨w.heap.size, 1, none⟩) (by simp)
      have hz1 := hb1.size
      simp [go_sem] at hx1 hx2 hz1
      have hb := below_1 hb1
      clear hb1
      go_wp2_with fail
      refine (Offset_is s ix k true Ho.out Hv.out hz _ _ _ _ _ (h.keep hb) (h''.keep hb)).mono ?_
      rintro e w' ⟨rfl, hb2⟩
      have hx3 := (hb2.cell (p := ⟨w.heap.size, 1, none⟩) (by show w.heap.size < _; omega)).trans hx2
      have hb := below_t hb hb2
      obtain ⟨b1, o1, rfl, -, hc⟩ := (h'.keep hb).at h3
      clear hx1 hx2 hb2
      go_wp2_with fail
      go_ret2
      exact ⟨rfl, hb⟩
    · have e : atS s d ix = (0, false) := if_neg fun h => hv h.2
      rw [e]
      have hz : shapeS s = 0 := by
        unfold arrS at ha
        by_cases hz : shapeS s = 0
        · exact hz
        · rw [if_neg hz] at ha
          exact absurd ha hz
      have Ho : Hid (offS s ix = 0) := if_neg hv
      have Hv := Lib.hid (decide_eq_false hv)
      clear e hv
      go_enter Try.func39, Try.ntmps39
      go_wp2_with fail
      refine (ArrayCheck_is s d 0 ha _ _ _ _ _ (h.keep (below_alloc _ _)) (h'.keep (below_alloc _ _))).mono ?_
      rintro e w' ⟨rfl, hb1⟩
      have hx1 := hb1.cell (p := ⟨w.heap.size, 0, none⟩) (by simp)
      simp [go_sem] at hx1
      have hb := below_1 hb1
      clear hb1
      go_wp2_with fail
      refine (Offset_is s ix 0 false Ho.out Hv.out hz _ _ _ _ _ (h.keep hb) (h''.keep hb)).mono ?_
      rintro e w' ⟨rfl, hb2⟩
      go_wp2_with fail
      go_ret2
      exact ⟨rfl, below_t hb hb2⟩
  · have e : atS s d ix = (0, false) := if_neg fun h => ha h.1
    rw [e]
    have hb : (arrS s d != 0) = true := by simp [ha]
    clear e
    go_enter Try.func39, Try.ntmps39
    go_wp2_with fail
    refine (ArrayCheck_is s d _ rfl _ _ _ _ _ (h.keep (below_alloc _ _)) (h'.keep (below_alloc _ _))).mono ?_
    rintro e w' ⟨rfl, hb1⟩
    go_wp2_with fail
    go_ret2
    exact ⟨rfl, below_1 hb1⟩
end Go.Proofs.Ythkfjdhakbjllaa
