/- What array.New, Scalar, Vector, At and Equal return. -/
import Derived.Test.YthkfjdhakbjllaaArray2
namespace Go.Proofs.Ythkfjdhakbjllaa
open Go.RowKit Go.Shelf
set_option linter.unusedVariables false

theorem Ints.one {w : World} {b : Nat} {n : Int} (hc : w.cell? ⟨b, 0, none⟩ = some (.int .i64 n)) (hn : I64 n) : Ints w (some ⟨b, 0, none⟩) [n] := by
  refine ⟨.inr ⟨b, 0, rfl, World.block_lt_of_cell? w _ hc, fun i u hu => ?_⟩, by simpa using hn, by simp⟩
  match i, hu with
  | 0, hu =>
    simp at hu
    subst hu
    exact hc

theorem ArrayCheck_is (s d : List Int) (n : Int) (hn : arrS s d = n) (p q : Option Addr) (c f : Nat) (w : World) (h : Ints w p s) (h' : Ints w q d) :
    Calls Try.prog 37 #[.agg #[.slice p s.length c, .slice q d.length f]] w fun e w' => e = .returned (.int .i64 n) ∧ Below w.heap.size w w' := by
  have := ArrayCheck_any p q c f s d w h h'
  rw [hn] at this
  exact this

theorem New.ints' {B : Nat} {w : World} {p : Option Addr} {e : TypeId} {xs : List Int} (h : New B w p e (xs.map (.int .i64))) {w0 : World} {p0 : Option Addr} (h0 : Ints w0 p0 xs) : Ints w p xs := h.ints h0.i64 h0.small

set_option maxHeartbeats 1000000 in
theorem ArrayNew_any (p q : Option Addr) (c f : Nat) (s d : List Int) (w : World) (h : Ints w p s) (h' : Ints w q d) (hl : s.length ≤ 1099511627776) (hl' : d.length ≤ 1099511627776) (n : Int) (hn : arrS s d = n) :
    Calls Try.prog 35 #[.slice p s.length c, .slice q d.length f] w fun e w' =>
      (∃ p' c' q' f', e = .returned (.tuple #[.agg #[.slice p' (if n = 0 then s else []).length c', .slice q' (if n = 0 then d else []).length f'], .int .i64 n]) ∧ Ints w' p' (if n = 0 then s else []) ∧ Ints w' q' (if n = 0 then d else [])) ∧ Below w.heap.size w w' := by
  have Hn := Lib.hid hn
  clear hn
  by_cases h0 : n = 0
  · subst h0
    rw [if_pos rfl, if_pos rfl]
    go_enter Try.func35, Try.ntmps35
    go_wp2_with fail
    refine (ArrayCopy_any p q c f s d _ (h.keep (below_alloc _ _)) (h'.keep (below_alloc _ _)) hl hl').mono ?_
    rintro e w1 ⟨⟨p', c', q', f', rfl, hn1, hn2⟩, hb1⟩
    have hr1 := hb1.cell (p := ⟨w.heap.size, 0, none⟩) (by simp)
    have hr2 := hb1.cell (p := ⟨w.heap.size, 1, none⟩) (by simp)
    have hf1 := hb1.frozen (p := ⟨w.heap.size, 0, none⟩) (by simp)
    have hf2 := hb1.frozen (p := ⟨w.heap.size, 1, none⟩) (by simp)
    have hz1 := hb1.size
    simp [go_sem] at hr1 hr2 hf1 hf2 hz1
    have hi1 := hn1.ints' h
    have hi2 := hn2.ints' h'
    have hbw := below_1 hb1
    clear hb1
    go_wp2_with fail
    refine (ArrayCheck_is s d 0 Hn.out p' q' c' f' _ (hi1.keep (below_alloc _ _)) (hi2.keep (below_alloc _ _))).mono ?_
    rintro e w2 ⟨rfl, hb2⟩
    have hx1 := hb2.cell (p := ⟨w1.heap.size, 0, none⟩) (by simp)
    have hx2 := hb2.cell (p := ⟨w1.heap.size, 1, none⟩) (by simp)
    simp [go_sem] at hx1 hx2
    have hb12 := below_1 hb2
    have hr1 := (hb12.cell (p := ⟨w.heap.size, 0, none⟩) (by show w.heap.size < _; omega)).trans hr1
    have hr2 := (hb12.cell (p := ⟨w.heap.size, 1, none⟩) (by show w.heap.size < _; omega)).trans hr2
    have hf1 := (hb12.frozen (p := ⟨w.heap.size, 0, none⟩) (by show w.heap.size < _; omega)).trans hf1
    have hf2 := (hb12.frozen (p := ⟨w.heap.size, 1, none⟩) (by show w.heap.size < _; omega)).trans hf2
    have hn1 := hn1.keep' hb12
    have hn2 := hn2.keep' hb12
    have hbw2 := below_t hbw hb12
    have hne : ¬ w1.heap.size = w.heap.size := by omega
    clear hb12 hb2 hbw
    go_wp2_with fail
    refine bodyPost_ret (v := .tuple #[.agg #[.slice p' s.length c', .slice q' d.length f'], .int .i64 0]) (by simp [results, Try.results35, go_sem, hr1, hr2]) rfl ?_
    refine ⟨⟨p', c', q', f', rfl, ?_, ?_⟩, ?_⟩
    · exact ((hn1.other (by simp) _).other (by simp) _).ints' h
    · exact ((hn2.other (by simp) _).other (by simp) _).ints' h'
    · exact (hbw2.setCell (Nat.le_refl _) _).setCell (Nat.le_refl _) _
  · rw [if_neg h0, if_neg h0]
    have h0b : (n != 0) = true := by simp [h0]
    go_enter Try.func35, Try.ntmps35
    go_wp2_with fail
    refine (ArrayCopy_any p q c f s d _ (h.keep (below_alloc _ _)) (h'.keep (below_alloc _ _)) hl hl').mono ?_
    rintro e w1 ⟨⟨p', c', q', f', rfl, hn1, hn2⟩, hb1⟩
    have hr1 := hb1.cell (p := ⟨w.heap.size, 0, none⟩) (by simp)
    have hr2 := hb1.cell (p := ⟨w.heap.size, 1, none⟩) (by simp)
    have hf1 := hb1.frozen (p := ⟨w.heap.size, 0, none⟩) (by simp)
    have hf2 := hb1.frozen (p := ⟨w.heap.size, 1, none⟩) (by simp)
    have hz1 := hb1.size
    simp [go_sem] at hr1 hr2 hf1 hf2 hz1
    have hi1 := hn1.ints' h
    have hi2 := hn2.ints' h'
    have hbw := below_1 hb1
    clear hb1 hn1 hn2
    go_wp2_with fail
    refine (ArrayCheck_is s d n Hn.out p' q' c' f' _ (hi1.keep (below_alloc _ _)) (hi2.keep (below_alloc _ _))).mono ?_
    rintro e w2 ⟨rfl, hb2⟩
    have hb12 := below_1 hb2
    have hr1 := (hb12.cell (p := ⟨w.heap.size, 0, none⟩) (by show w.heap.size < _; omega)).trans hr1
    have hr2 := (hb12.cell (p := ⟨w.heap.size, 1, none⟩) (by show w.heap.size < _; omega)).trans hr2
    have hf1 := (hb12.frozen (p := ⟨w.heap.size, 0, none⟩) (by show w.heap.size < _; omega)).trans hf1
    have hf2 := (hb12.frozen (p := ⟨w.heap.size, 1, none⟩) (by show w.heap.size < _; omega)).trans hf2
    have hbw2 := below_t hbw hb12
    clear hb12 hb2 hbw
    go_wp2_with fail
    refine bodyPost_ret (v := .tuple #[.agg #[.slice none 0 0, .slice none 0 0], .int .i64 n]) (by simp [results, Try.results35, go_sem, hr1, hr2]) rfl ?_
    exact ⟨⟨none, 0, none, 0, rfl, Ints.nil _, Ints.nil _⟩, (hbw2.setCell (Nat.le_refl _) _).setCell (Nat.le_refl _) _⟩

/-- a literal's row of int64 numbers -/
theorem ArrayScalar_any (n : Int) (w : World) (hn : I64 n) :
    Calls Try.prog 44 #[.int .i64 n] w fun e w' => (∃ q f, e = .returned (.agg #[.slice none 0 0, .slice q [n].length f]) ∧ Ints w' q [n]) ∧ Below w.heap.size w w' := by
  go_enter Try.func44, Try.ntmps44
  go_wp2_with fail
  refine bodyPost_ret (v := .agg #[.slice none 0 0, .slice (some ⟨w.heap.size + 1, 0, none⟩) 1 1]) (by simp [results, Try.results44, go_sem]) rfl ?_
  refine ⟨⟨_, 1, rfl, ?_⟩, ?_⟩
  · exact Ints.one (by simp [go_sem]) hn
  · go_grown

theorem ArrayVector_any (p : Option Addr) (c : Nat) (xs : List Int) (w : World) (h : Ints w p xs) (hl : xs.length ≤ 1099511627776) :
    Calls Try.prog 41 #[.slice p xs.length c] w fun e w' => (∃ p' c' q f, e = .returned (.agg #[.slice p' [(xs.length : Int)].length c', .slice q xs.length f]) ∧ Ints w' p' [(xs.length : Int)] ∧ Ints w' q xs) ∧ Below w.heap.size w w' := by
  go_enter Try.func41, Try.ntmps41
  go_wp2_with fail
  refine (copied_int64_any _ _ xs _ (h.keep (below_two _ _ _)) hl).mono ?_
  rintro e w1 ⟨⟨q, f, rfl, hn⟩, hb1⟩
  have hr1 := hb1.cell (p := ⟨w.heap.size, 0, none⟩) (lt_a0 _ _ _)
  have hr2 := hb1.cell (p := ⟨w.heap.size, 1, none⟩) (lt_a0 _ _ _)
  have hf1 := hb1.frozen (p := ⟨w.heap.size, 0, none⟩) (lt_a0 _ _ _)
  have hf2 := hb1.frozen (p := ⟨w.heap.size, 1, none⟩) (lt_a0 _ _ _)
  have hx := hb1.cell (p := ⟨w.heap.size + 1, 0, none⟩) (lt_a1 _ _ _)
  simp [go_sem] at hr1 hr2 hf1 hf2 hx
  have hbw := below_2 hb1
  have hne : ¬ w.heap.size + 1 = w.heap.size := by omega
  have hs := h.small
  go_wp2_with fail
  refine bodyPost_ret (v := .agg #[.slice (some ⟨w.heap.size + 1, 0, none⟩) 1 1, .slice q xs.length f]) (by simp [results, Try.results41, go_sem, hr1, hr2]) rfl ?_
  refine ⟨⟨_, 1, q, f, rfl, ?_, ?_⟩, ?_⟩
  · exact Ints.one (by simp [go_sem, hx]) ⟨by omega, by omega⟩
  · exact ((hn.other (lt_a0 _ _ _) _).other (lt_a0 _ _ _) _).ints' h
  · exact (hbw.setCell (Nat.le_refl _) _).setCell (Nat.le_refl _) _

theorem SlicesEqual64_any (a b : Option Addr) (c d : Nat) (xs ys : List Int) (w : World) (h : Ints w a xs) (h' : Ints w b ys) :
    Calls Try.prog 83 #[.slice a xs.length c, .slice b ys.length d] w fun e w' => e = .returned (.bool (eqS xs ys)) ∧ ∃ n, w' = w.drewN n := by
  have hn := h.small
  have hn' := h'.small
  by_cases hlen : xs.length = ys.length
  · have hlb : ((xs.length : Int) != (ys.length : Int)) = false := by simp [hlen]
    have Hlen := Lib.hid hlen
    have hle : xs.length ≤ ys.length := by omega
    have hge : ys.length ≤ xs.length := by omega
    clear hlen
    go_enter Try.func83, Try.ntmps83
    go_wp2
    go_loopw [13] (fun i wr => ∃ k m : Nat, k ≤ xs.length ∧ i = .int .i64 k ∧ wr = w.drewN m ∧ Hid (xs.take k = ys.take k)) (fun i _ => xs.length - (intOf i).toNat)
    case atStart => exact ⟨0, 0, Nat.zero_le _, rfl, rfl, by simp [Hid]⟩
    case round =>
      obtain ⟨k, m, hk, rfl, rfl, hI⟩ := hrel
      by_cases hlt : k < xs.length
      · have hlt' : k < ys.length := by omega
        obtain ⟨b1, o1, rfl, -, hc⟩ := h.at hlt
        obtain ⟨b2, o2, rfl, -, hc'⟩ := h'.at hlt'
        have hi1 : (k : Int) < (xs.length : Int) := by omega
        have hi2 : (k : Int) < (ys.length : Int) := by omega
        by_cases hx : nth xs k = nth ys k
        · have hxb : (nth xs k != nth ys k) = false := by simp [hx]
          have Hx := Lib.hid hx
          clear hx
          have Hi : Hid (xs.take (k + 1) = ys.take (k + 1)) := by unfold Hid; rw [take_nth hlt, take_nth hlt', hI.out, Hx.out]
          go_wp2
          go_quiet (fail)
          go_wp2
          go_roundw
          case rel => exact ⟨k + 1, _, by omega, by go_num, rfl, Hi⟩
          case measure => simp [intOf]; omega
        · have hxb : (nth xs k != nth ys k) = true := by simp [hx]
          have Hi : Hid (eqS xs ys = false) := by
            unfold Hid eqS
            rw [decide_eq_false_iff_not]
            rintro rfl
            exact hx rfl
          clear hx
          go_wp2
          go_quiet (fail)
          go_wp2
          go_ret
          exact ⟨ret_bool Hi.out.symm, quiet_add _ _ _⟩
      · have Hi : Hid (eqS xs ys = true) := by
          have := hI.out
          rw [List.take_of_length_le (by omega), List.take_of_length_le (by omega)] at this
          simp [Hid, eqS, this]
        go_wp2
        go_ret
        exact ⟨ret_bool Hi.out.symm, _, rfl⟩
  · have hlb : ((xs.length : Int) != (ys.length : Int)) = true := by simp; omega
    have Hi : Hid (eqS xs ys = false) := by
      unfold Hid eqS
      rw [decide_eq_false_iff_not]
      rintro rfl
      exact hlen rfl
    go_enter Try.func83, Try.ntmps83
    go_wp2
    go_ret
    exact ⟨ret_bool Hi.out.symm, 0, rfl⟩
end Go.Proofs.Ythkfjdhakbjllaa
