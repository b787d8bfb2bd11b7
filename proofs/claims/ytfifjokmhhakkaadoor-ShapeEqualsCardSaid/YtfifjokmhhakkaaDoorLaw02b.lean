/- ShapeStrides, walked. No condition. -/
import Derived.Test.YtfifjokmhhakkaaDoorLaw02
namespace Go.Proofs.YtfifjokmhhakkaaDoor
open Go.RowKit Go.Shelf
set_option linter.unusedVariables false
set_option linter.unusedSimpArgs false

theorem Strides_is (a : Option Addr) (c : Nat) (s l : List Int) (n : Nat) (hl : strideS s = l) (hn : l.length = n) (w : World) (h : Ints w a s) :
    Calls Tryd.prog 10 #[.slice a s.length c] w fun e w' => (∃ q cap, e = .returned (.slice q n cap) ∧ Ints w' q l) ∧ Below w.heap.size w w' := by
  subst hl hn
  refine (Strides_any a c s w h).mono fun e w' ⟨⟨q, cap, he, hq⟩, hb⟩ => ⟨⟨q, cap, he, hq.ints (strideS_i64 s) ?_⟩, hb⟩
  have := strideS_len s
  have := h.small
  omega
theorem RefCheck_b (s : List Int) (n : Int) (hn : shapeS s = n) (a : Option Addr) (c : Nat) (w : World) (h : Ints w a s) :
    Calls Tryd.prog 9 #[.slice a s.length c] w fun e w' => e = .returned (.int .i64 n) ∧ Below w.heap.size w w' :=
  (RefCheck_is s n hn a c w h).mono fun e w' ⟨he, hw⟩ => ⟨he, hw ▸ Below.refl _ _⟩
theorem RefCells_b (s : List Int) (n : Int) (hn : cellsS s = n) (a : Option Addr) (c : Nat) (w : World) (h : Ints w a s) :
    Calls Tryd.prog 12 #[.slice a s.length c] w fun e w' => e = .returned (.int .i64 n) ∧ Below w.heap.size w w' :=
  (RefCells_is s n hn a c w h).mono fun e w' ⟨he, hw⟩ => ⟨he, hw ▸ Below.refl _ _⟩
theorem strideS_full {s : List Int} (h : shapeS s = 0) : (strideS s).length = s.length := by
  unfold strideS
  rw [if_pos h]
  split
  · simp
  · exact strs_len s
theorem strideS_null {s : List Int} (h : shapeS s = 0) (hc : cellsS s = 0) {k : Nat} (hk : k < s.length) : nth (strideS s) k = 0 := by
  unfold strideS
  rw [if_pos h, if_pos hc]
  simp [nth, hk]
theorem strideS_some {s : List Int} (h : shapeS s = 0) (hc : cellsS s ≠ 0) : strideS s = strs s := by
  unfold strideS
  rw [if_pos h, if_neg hc]
theorem strs_next {s : List Int} {k : Nat} (hk : k + 1 < s.length) : nth (strs s) (k + 1) * nth s (k + 1) = nth (strs s) k := by
  rw [strs_nth s k (by omega), strs_nth s (k + 1) hk, prod_drop_step hk]
theorem strs_last {s : List Int} {k : Nat} (hk : k + 1 = s.length) : nth (strs s) k = 1 := by
  rw [strs_nth s k (by omega), List.drop_eq_nil_of_le (by omega)]
  rfl
theorem strs_first {s : List Int} (hk : 0 < s.length) : nth (strs s) 0 * nth s 0 = prod s := by
  rw [strs_nth s 0 hk]
  have := prod_drop_step (s := s) (k := 0) hk
  rw [List.drop_zero] at this
  rw [← this]

set_option maxRecDepth 100000 in
set_option maxHeartbeats 4000000 in
theorem ShapeStrides_law (p : Option Addr) (c : Nat) (s : List Int) (w : World) (h : Ints w p s) (hbd : Bds p s.length c) :
    Calls Tryd.prog 3 #[.slice p s.length c] w fun e w' => e = .returned (.bool true) ∧ Below w.heap.size w w' := by
  have hsm := h.small
  obtain ⟨z, hz⟩ : ∃ z, shapeS s = z := ⟨_, rfl⟩
  have HZ := Lib.hid hz
  clear hz
  go_enter Tryd.func3, Tryd.ntmps3
  go_wp2_with fail
  refine (awake02 w).mono ?_
  rintro e1 w1 ⟨rfl, hb⟩
  have h1 := h.keep hb
  go_wp2_with fail
  refine (RefCheck_b s z HZ.out p c w1 h1).mono ?_
  rintro e2 w2 ⟨rfl, hb2⟩
  have h2 := h1.keep hb2
  have hb := below_t hb hb2
  by_cases k1 : z = 0
  case neg =>
    have d1 : (z != 0) = true := by simpa using k1
    go_wp2_with fail
    refine (awake02 w2).mono ?_
    rintro e3 w3 ⟨rfl, hb3⟩
    go_wp2_with fail
    go_ret
    exact ⟨rfl, below_t hb hb3⟩
  subst k1
  have hsh := shapeS_zero.1 HZ.out
  obtain ⟨l, hl⟩ : ∃ l, strideS s = l := ⟨_, rfl⟩
  have HL := Lib.hid hl
  have hll : Hid (l.length = s.length) := by rw [Hid, ← hl]; exact strideS_full HZ.out
  clear hl hsh
  go_wp2_with fail
  refine (Strides_is p c s l s.length HL.out hll.out w2 h2).mono ?_
  rintro e3 w3 ⟨⟨q, cap, rfl, hq⟩, hb3⟩
  have h3 := h2.keep hb3
  have hb := below_t hb hb3
  have hne : ((s.length : Int) != (s.length : Int)) = false := by simp
  by_cases k2 : s.length = 0
  · have d2 : ((s.length : Int) == 0) = true := by simpa using k2
    have hc1 : Hid (cellsS s = 1) := by
      have : s = [] := List.eq_nil_of_length_eq_zero k2
      rw [this]
      rfl
    clear k2
    go_wp2_with fail
    refine (ShapeCells_is s 1 hc1.out s.length rfl _ _ _ h3).mono ?_
    rintro e4 w4 ⟨rfl, hb4⟩
    go_wp2_with fail
    go_ret
    exact ⟨rfl, below_t hb hb4⟩
  have d2 : ((s.length : Int) == 0) = false := by simpa using k2
  obtain ⟨m, hm⟩ : ∃ m, cellsS s = m := ⟨_, rfl⟩
  have HM := Lib.hid hm
  clear hm
  go_wp2_with fail
  refine (RefCells_b s m HM.out _ _ _ h3).mono ?_
  rintro e4 w4 ⟨rfl, hb4⟩
  have h4 := h3.keep hb4
  have hq4 := hq.keep hb4
  have hb := below_t hb hb4
  by_cases k3 : m = 0
  · subst k3
    have hz0 : Hid (∀ k, k < s.length → nth l k = 0) := fun k hk => by rw [← HL.out]; exact strideS_null HZ.out HM.out hk
    go_wp2_with fail
    go_loop [4] (fun i => ∃ k : Nat, k ≤ s.length ∧ i = .int .i64 k) (fun i => s.length - (intOf i).toNat)
    case atStart => exact ⟨0, Nat.zero_le _, rfl⟩
    case round =>
      obtain ⟨k, hk, rfl⟩ := hrel
      by_cases hlt : k < s.length
      · have hi1 : (k : Int) < (s.length : Int) := by omega
        obtain ⟨b, o, rfl, -, hc⟩ := hq4.at (by have := hll.out; omega : k < l.length)
        rw [hz0.out k hlt] at hc
        go_wp2_with fail
        go_round
        case rel => exact ⟨k + 1, by omega, by go_num⟩
        case measure => simp [intOf]; omega
      · have hi1 : ¬ (k : Int) < (s.length : Int) := by omega
        go_wp2_with fail
        refine (ShapeCells_is s 0 HM.out s.length rfl _ _ _ h4).mono ?_
        rintro e5 w5 ⟨rfl, hb5⟩
        go_wp2_with fail
        go_ret
        exact ⟨rfl, below_t hb hb5⟩
  · have d3 : (m == 0) = false := by simpa using k3
    have hsh := shapeS_zero.1 HZ.out
    obtain ⟨hpos, hpr, hp6⟩ := hsh.pos (by rw [HM.out]; exact k3)
    have hls : l = strs s := by rw [← HL.out]; exact strideS_some HZ.out (by rw [HM.out]; exact k3)
    have H1 : Hid (∀ k, k + 1 < s.length → nth l (k + 1) * nth s (k + 1) = nth l k) := fun k hk => by rw [hls]; exact strs_next hk
    have H2 : Hid (∀ k, k + 1 = s.length → nth l k = 1) := fun k hk => by rw [hls]; exact strs_last hk
    have H3 : Hid (nth l 0 * nth s 0 = m) := by rw [Hid, hls, strs_first (by omega), hpr, HM.out]
    have H4 : Hid (∀ k, k < s.length → 0 < nth l k ∧ nth l k ≤ 65536) := fun k hk => by rw [hls]; exact strs_i64 hpos hp6 _ (nth_mem (by rw [strs_len]; exact hk))
    have hm6 : m ≤ 65536 := by have := hpr; have := HM.out; omega
    have hm0 : 0 ≤ m := by have := cellsS_bd s; have := HM.out; omega
    clear hsh hpos hpr hp6 hls
    go_wp2_with fail
    go_loopw [5] (fun i wr => ∃ k : Nat, k < s.length ∧ i = .int .i64 k ∧ Below w4.heap.size w4 wr) (fun i _ => s.length - (intOf i).toNat)
    case atStart => exact ⟨0, by omega, rfl, Below.refl _ _⟩
    case round =>
      obtain ⟨k, hk, rfl, hbr⟩ := hrel
      have hr := h4.keep hbr
      have hqr := hq4.keep hbr
      have hll' := hll.out
      by_cases hlt : k + 1 < s.length
      · have hi1 : (k : Int) + 1 < (s.length : Int) := by omega
        have hi0 : (k : Int) < (s.length : Int) := by omega
        obtain ⟨b, o, hqe, -, hc⟩ := hqr.at (by omega : k < l.length)
        obtain ⟨b', o', hqe', -, hc'⟩ := hqr.at (by omega : k + 1 < l.length)
        rw [hqe] at hqe'
        obtain ⟨rfl, rfl⟩ : b' = b ∧ o' = o := by injection hqe' with e; injection e with e1 e2; exact ⟨e1.symm, e2.symm⟩
        obtain ⟨b2, o2, rfl, -, hs'⟩ := hr.at hlt
        subst hqe
        have hmul := H1.out k hlt
        have hbx := H4.out k hk
        obtain ⟨x, hx⟩ : ∃ x, nth l k = x := ⟨_, rfl⟩
        obtain ⟨y, hy⟩ : ∃ x, nth l (k + 1) = x := ⟨_, rfl⟩
        obtain ⟨z, hz⟩ : ∃ x, nth s (k + 1) = x := ⟨_, rfl⟩
        rw [hx, hy, hz] at hmul
        rw [hx] at hc hbx
        rw [hy] at hc'
        rw [hz] at hs'
        clear hx hy hz hll'
        go_upto_region 18 with fail
        go_quiet (fail)
        go_wp2_with fail
        go_roundw
        case rel => exact ⟨k + 1, by omega, by go_num, below_t hbr (below_drewN _ _ _)⟩
        case measure => simp [intOf]; omega
      · have hi1 : ¬ (k : Int) + 1 < (s.length : Int) := by omega
        have hk1 : (s.length : Int) - 1 = (k : Int) := by omega
        have hki : (k : Int) < (s.length : Int) := by omega
        have h0i : (0 : Int) < (s.length : Int) := by omega
        obtain ⟨b, o, hqe, -, hc⟩ := hqr.at (by omega : k < l.length)
        obtain ⟨b', o', hqe', -, hc'⟩ := hqr.at (by omega : 0 < l.length)
        rw [hqe] at hqe'
        obtain ⟨rfl, rfl⟩ : b' = b ∧ o' = o := by injection hqe' with e; injection e with e1 e2; exact ⟨e1.symm, e2.symm⟩
        obtain ⟨b2, o2, rfl, -, hs'⟩ := hr.at (by omega : 0 < s.length)
        subst hqe
        rw [H2.out k (by omega)] at hc
        have hmul := H3.out
        obtain ⟨y, hy⟩ : ∃ x, nth l 0 = x := ⟨_, rfl⟩
        obtain ⟨z, hz⟩ : ∃ x, nth s 0 = x := ⟨_, rfl⟩
        rw [hy, hz] at hmul
        rw [hy, Nat.add_zero] at hc'
        rw [hz, Nat.add_zero] at hs'
        have hmm : (m == m) = true := by simp
        have hCC : Hid (∀ n, Calls Tryd.prog 11 #[.slice (some ⟨b2, o2, none⟩) s.length c] (wr.drewN n) fun e w' => e = .returned (.int .i64 m) ∧ wr.drewN n = w') := fun n => by
          have := ShapeCells_any (some ⟨b2, o2, none⟩) c s (wr.drewN n) (hr.keep (below_drewN _ _ _))
          rwa [HM.out] at this
        clear hy hz hll'
        go_upto_region 20 with fail
        go_quiet ((go_at_call 11; exact quiet_left (hCC.out _)))
        go_wp2_with fail
        go_ret
        exact ⟨rfl, below_t hb (below_t hbr (below_drewN _ _ _))⟩
end Go.Proofs.YtfifjokmhhakkaaDoor
