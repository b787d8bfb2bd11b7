/- What five returns, and the reference's Small of layers 2 and 5 at 300. -/
import Derived.Test.YtolkgjbljdmadaaRef05
namespace Go.Proofs.Ytolkgjbljdmadaa
open Go.RowKit Go.Shelf
set_option linter.unusedVariables false

/-- the walk over the dimensions: each counts as one at least -/
def smallL : List Int → Int → Bool
  | [], _ => true
  | x :: xs, n => if 30000 < n * max x 1 then false else smallL xs (n * max x 1)
def smallS (s : List Int) : Bool := decide (s.length ≤ 6) && (shapeS s == 0) && decide (cellsS s ≤ 300) && smallL s 1

theorem smallL_no {xs : List Int} {k : Nat} {q m : Int} (h : k < xs.length) (hm : q * max (nth xs k) 1 = m) (hx : 30000 < m) : smallL (xs.drop k) q = false := by
  rw [drop_nth h]
  unfold smallL
  rw [hm, if_pos hx]
theorem smallL_yes {xs : List Int} {k : Nat} {q m : Int} (h : k < xs.length) (hm : q * max (nth xs k) 1 = m) (hx : ¬ 30000 < m) : smallL (xs.drop k) q = smallL (xs.drop (k + 1)) m := by
  rw [drop_nth h]
  rw [smallL, hm, if_neg hx]

set_option maxHeartbeats 800000 in
theorem RefSmall2_any (p : Option Addr) (c : Nat) (s : List Int) (w : World) (h : Ints w p s) :
    Calls Try.prog 70 #[.slice p s.length c, .int .i64 300] w fun e w' => e = .returned (.bool (smallS s)) ∧ w = w' := by
  have hn := h.small
  by_cases hl : 6 < s.length
  · have H : Hid (smallS s = false) := by unfold smallS; rw [decide_eq_false (show ¬ s.length ≤ 6 by omega)]; rfl
    go_enter Try.func70, Try.ntmps70
    go_wp2_with fail
    all_goals first | (exfalso; omega) | skip
    go_wp2_with fail
    go_ret
    exact ⟨ret_bool H.out.symm, rfl⟩
  · have hle : s.length ≤ 6 := by omega
    by_cases hz : shapeS s = 0
    · have Hz := Lib.hid hz
      obtain ⟨n, hnn⟩ : ∃ n, cellsS s = n := ⟨_, rfl⟩
      have Hn := Lib.hid hnn
      have hnb := hnn ▸ cellsS_bd s
      by_cases h3 : 300 < n
      · have H := Lib.hid (show smallS s = false by unfold smallS; rw [hnn, decide_eq_false (show ¬ n ≤ 300 by omega)]; simp)
        clear hz hnn
        go_enter Try.func70, Try.ntmps70
        go_wp2_with fail
        all_goals first | (exfalso; omega) | skip
        refine (RefCheck_is s 0 Hz.out _ _ _ h).mono ?_
        rintro e w' ⟨rfl, rfl⟩
        go_wp2_with fail
        refine (RefCells_is s n Hn.out _ _ _ h).mono ?_
        rintro e w' ⟨rfl, rfl⟩
        go_wp2_with fail
        go_ret
        exact ⟨ret_bool H.out.symm, rfl⟩
      · have H : Hid (smallS s = smallL s 1) := by unfold smallS; rw [hnn, hz, decide_eq_true hle, decide_eq_true (show n ≤ 300 by omega)]; rfl
        have hd := (shapeS_zero.1 hz).dims
        have Hd := Lib.hid hd
        clear hz hnn hd
        go_enter Try.func70, Try.ntmps70
        go_wp2_with fail
        all_goals first | (exfalso; omega) | skip
        refine (RefCheck_is s 0 Hz.out _ _ _ h).mono ?_
        rintro e w' ⟨rfl, rfl⟩
        go_wp2_with fail
        refine (RefCells_is s n Hn.out _ _ _ h).mono ?_
        rintro e w' ⟨rfl, rfl⟩
        go_wp2_with fail
        go_loop [5, 6] (fun m i => ∃ (k : Nat) (q : Int), k ≤ s.length ∧ i = .int .i64 k ∧ m = .int .i64 q ∧ 0 < q ∧ q ≤ 30000 ∧ Hid (smallL s 1 = smallL (s.drop k) q)) (fun _ i => s.length - (intOf i).toNat)
        case atStart => exact ⟨0, 1, Nat.zero_le _, rfl, rfl, by omega, by omega, by simp [Hid]⟩
        case round =>
          obtain ⟨k, q, hk, rfl, rfl, hq1, hq2, hI⟩ := hrel
          by_cases hlt : k < s.length
          · obtain ⟨b, off, rfl, -, hc⟩ := h.at hlt
            obtain ⟨hx1, hx2⟩ := Hd.out _ (nth_mem hlt)
            by_cases hx0 : nth s k < 1
            · have hn1 := Lib.hid (hI.out.trans (smallL_yes (m := q) hlt (by rw [Int.max_eq_right (by omega), Int.mul_one]) (by omega)))
              go_wp2
              all_goals first | (exfalso; omega) | skip
              go_round
              case rel => exact ⟨k + 1, q, by omega, by go_num, rfl, hq1, by omega, hn1.out⟩
              case measure => simp [intOf]; omega
            · have hm1 : 0 < q * nth s k := Int.mul_pos hq1 (by omega)
              have hm2 : q * nth s k ≤ 30000 * 65536 := Int.mul_le_mul hq2 hx2 (by omega) (by omega)
              have hmx : q * max (nth s k) 1 = q * nth s k := by rw [Int.max_eq_left (by omega)]
              by_cases hx : 30000 < q * nth s k
              · have H2 := Lib.hid (H.out.trans (hI.out.trans (smallL_no hlt hmx hx)))
                clear hmx
                go_wp2
                all_goals first | (exfalso; omega) | skip
                go_ret
                exact ⟨ret_bool H2.out.symm, rfl⟩
              · have hn1 := Lib.hid (hI.out.trans (smallL_yes hlt hmx hx))
                clear hmx
                go_wp2
                all_goals first | (exfalso; omega) | skip
                go_round
                case rel => exact ⟨k + 1, _, by omega, by go_num, rfl, hm1, by omega, hn1.out⟩
                case measure => simp [intOf]; omega
          · have H2 := Lib.hid (H.out.trans (hI.out.trans (by rw [List.drop_eq_nil_of_le (by omega)]; rfl) : smallL s 1 = true))
            go_wp2
            go_ret
            exact ⟨ret_bool H2.out.symm, rfl⟩
    · obtain ⟨z, hzz⟩ : ∃ z, shapeS s = z := ⟨_, rfl⟩
      rw [hzz] at hz
      have Hz := Lib.hid hzz
      have H := Lib.hid (show smallS s = false by unfold smallS; rw [hzz, show (z == 0) = false by simp [hz]]; simp)
      have hzb : (z != 0) = true := by simp [hz]
      clear hzz
      go_enter Try.func70, Try.ntmps70
      go_wp2_with fail
      all_goals first | (exfalso; omega) | skip
      refine (RefCheck_is s z Hz.out _ _ _ h).mono ?_
      rintro e w' ⟨rfl, rfl⟩
      go_wp2_with fail
      go_ret
      exact ⟨ret_bool H.out.symm, rfl⟩

theorem RefACheck_is (s d : List Int) (n : Int) (hn : arrS s d = n) (p q : Option Addr) (c f : Nat) (w : World) (h : Ints w p s) (h' : Ints w q d) :
    Calls Try.prog 30 #[.agg #[.slice p s.length c, .slice q d.length f]] w fun e w' => e = .returned (.int .i64 n) ∧ Below w.heap.size w w' := hn ▸ RefACheck_any p q c f s d w h h'

theorem RefSmall2_is (s : List Int) (b : Bool) (hb : smallS s = b) (p : Option Addr) (c : Nat) (w : World) (h : Ints w p s) :
    Calls Try.prog 70 #[.slice p s.length c, .int .i64 300] w fun e w' => e = .returned (.bool b) ∧ w = w' := hb ▸ RefSmall2_any p c s w h

set_option maxHeartbeats 400000 in
theorem RefASmall_any (p q : Option Addr) (c f : Nat) (s d : List Int) (w : World) (h : Ints w p s) (h' : Ints w q d) :
    Calls Try.prog 61 #[.agg #[.slice p s.length c, .slice q d.length f], .int .i64 300] w fun e w' => e = .returned (.bool (smallS s && (arrS s d == 0))) ∧ Below w.heap.size w w' := by
  cases hs : smallS s with
  | false =>
    go_enter Try.func61, Try.ntmps61
    go_wp2_with fail
    refine (RefSmall2_is s false hs _ _ _ (h.keep (below_alloc _ _))).mono ?_
    rintro e w' ⟨rfl, rfl⟩
    go_wp2_with fail
    go_ret
    exact ⟨rfl, below_alloc _ _⟩
  | true =>
    obtain ⟨z, hz⟩ : ∃ z, arrS s d = z := ⟨_, rfl⟩
    have Hz := Lib.hid hz
    rw [hz]
    clear hz
    go_enter Try.func61, Try.ntmps61
    go_wp2_with fail
    refine (RefSmall2_is s true hs _ _ _ (h.keep (below_alloc _ _))).mono ?_
    rintro e w' ⟨rfl, rfl⟩
    go_wp2_with fail
    refine (RefACheck_is s d z Hz.out _ _ _ _ _ (h.keep (below_alloc _ _)) (h'.keep (below_alloc _ _))).mono ?_
    rintro e w' ⟨rfl, hb1⟩
    go_wp2_with fail
    go_ret
    exact ⟨rfl, below_1 hb1⟩
end Go.Proofs.Ytolkgjbljdmadaa
