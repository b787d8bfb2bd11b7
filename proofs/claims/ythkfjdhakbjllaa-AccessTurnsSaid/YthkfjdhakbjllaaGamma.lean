/- What the functions of package gamma return: Valid, Dot, Offset, Index, at all lists (Offset: at right shapes). -/
import Derived.Test.YthkfjdhakbjllaaShape
import Derived.Test.YthkfjdhakbjllaaRef03
namespace Go.Proofs.Ythkfjdhakbjllaa
open Go.RowKit Go.Shelf

theorem Valid_any (a b : Option Addr) (c d : Nat) (s ix : List Int) (w : World) (h : Ints w a s) (h' : Ints w b ix) :
    Calls Try.prog 22 #[.slice a s.length c, .slice b ix.length d] w fun e w' => e = .returned (.bool (decide (Valid s ix))) ∧ ∃ n, w' = w.drewN n := by
  have hn := h.small
  have hn' := h'.small
  by_cases hlen : s.length = ix.length
  · have hlb : ((ix.length : Int) != (s.length : Int)) = false := by simp [hlen]
    have Hlen := Lib.hid hlen
    have hle : ix.length ≤ s.length := by omega
    clear hlen
    go_enter Try.func22, Try.ntmps22
    go_wp2
    go_loopw [14] (fun i wr => ∃ k m : Nat, k ≤ ix.length ∧ i = .int .i64 k ∧ wr = w.drewN m ∧ Hid (∀ j, j < k → 0 ≤ nth ix j ∧ nth ix j < nth s j)) (fun i _ => ix.length - (intOf i).toNat)
    case atStart => exact ⟨0, 0, Nat.zero_le _, rfl, rfl, fun j hj => by omega⟩
    case round =>
      obtain ⟨k, m, hk, rfl, rfl, hI⟩ := hrel
      by_cases hlt' : k < ix.length
      · have hlt : k < s.length := by omega
        obtain ⟨b1, o1, rfl, -, hc⟩ := h.at hlt
        obtain ⟨b2, o2, rfl, -, hc'⟩ := h'.at hlt'
        have hi1 : (k : Int) < (s.length : Int) := by omega
        have hi2 : (k : Int) < (ix.length : Int) := by omega
        by_cases hx : nth ix k < 0
        · have Hi : Hid (decide (Valid s ix) = false) := decide_eq_false fun hv => by have := hv.2 k hlt; omega
          go_wp2
          go_ret
          exact ⟨ret_bool Hi.out.symm, _, rfl⟩
        · have hxd : decide (nth ix k < 0) = false := decide_eq_false hx
          by_cases hy : nth s k ≤ nth ix k
          · have Hi : Hid (decide (Valid s ix) = false) := decide_eq_false fun hv => by have := hv.2 k hlt; omega
            go_wp2
            go_ret
            exact ⟨ret_bool Hi.out.symm, _, rfl⟩
          · have hyd : decide (nth s k ≤ nth ix k) = false := decide_eq_false hy
            have Hi : Hid (∀ j, j < k + 1 → 0 ≤ nth ix j ∧ nth ix j < nth s j) := by
              intro j hj
              by_cases hjk : j = k
              · subst hjk
                omega
              · exact hI.out j (by omega)
            go_wp2
            go_roundw
            case rel => exact ⟨k + 1, _, by omega, by go_num, rfl, Hi⟩
            case measure => simp [intOf]; omega
      · have Hi : Hid (decide (Valid s ix) = true) := decide_eq_true ⟨Hlen.out, fun j hj => hI.out j (by have := Hlen.out; omega)⟩
        go_wp2
        go_ret
        exact ⟨ret_bool Hi.out.symm, _, rfl⟩
  · have hlb : ((ix.length : Int) != (s.length : Int)) = true := by simp; omega
    have Hi : Hid (decide (Valid s ix) = false) := decide_eq_false fun hv => hlen hv.1
    go_enter Try.func22, Try.ntmps22
    go_wp2
    go_ret
    exact ⟨ret_bool Hi.out.symm, 0, rfl⟩

theorem Dot_any (a b : Option Addr) (c d : Nat) (xs ys : List Int) (w : World) (h : Ints w a xs) (h' : Ints w b ys) :
    Calls Try.prog 29 #[.slice a xs.length c, .slice b ys.length d] w fun e w' => e = .returned (.int .i64 (dotW xs ys 0)) ∧ ∃ n, w' = w.drewN n := by
  have hn := h.small
  have hn' := h'.small
  rcases Nat.lt_or_ge ys.length xs.length with hxy | hxy
  · have hxy' := Lib.hid hxy
    go_enter Try.func29, Try.ntmps29
    go_wp2
    go_loopw [5, 12] (fun n i wr => ∃ (k m : Nat) (q : Int), k ≤ ys.length ∧ i = .int .i64 k ∧ n = .int .i64 q ∧ wr = w.drewN m ∧ Hid (dotW xs ys 0 = dotW (xs.drop k) (ys.drop k) q)) (fun _ i _ => ys.length - (intOf i).toNat)
    case atStart => exact ⟨0, 0, 0, Nat.zero_le _, rfl, rfl, rfl, by simp [Hid]⟩
    case round =>
      obtain ⟨k, m, q, hk, rfl, rfl, rfl, hI⟩ := hrel
      by_cases hlt : k < ys.length
      · have hlt1 : k < xs.length := by omega
        have hlt2 : k < ys.length := by omega
        obtain ⟨b1, o1, rfl, -, hc⟩ := h.at hlt1
        obtain ⟨b2, o2, rfl, -, hc'⟩ := h'.at hlt2
        have hi1 : (k : Int) < (xs.length : Int) := by omega
        have hi2 : (k : Int) < (ys.length : Int) := by omega
        have Hi := Lib.hid (hI.out.trans (dotW_step hlt1 hlt2))
        go_wp2
        go_quiet (fail)
        go_wp2
        go_roundw
        case rel => exact ⟨k + 1, _, _, by omega, by go_num, rfl, rfl, Hi.out⟩
        case measure => simp [intOf]; omega
      · have Hi := Lib.hid (hI.out.trans (dotW_end (by omega)))
        go_wp2
        go_ret
        exact ⟨ret_int Hi.out.symm, _, rfl⟩
  · have hxy' := Lib.hid hxy
    go_enter Try.func29, Try.ntmps29
    go_wp2
    go_loopw [5, 12] (fun n i wr => ∃ (k m : Nat) (q : Int), k ≤ xs.length ∧ i = .int .i64 k ∧ n = .int .i64 q ∧ wr = w.drewN m ∧ Hid (dotW xs ys 0 = dotW (xs.drop k) (ys.drop k) q)) (fun _ i _ => xs.length - (intOf i).toNat)
    case atStart => exact ⟨0, 0, 0, Nat.zero_le _, rfl, rfl, rfl, by simp [Hid]⟩
    case round =>
      obtain ⟨k, m, q, hk, rfl, rfl, rfl, hI⟩ := hrel
      by_cases hlt : k < xs.length
      · have hlt1 : k < xs.length := by omega
        have hlt2 : k < ys.length := by omega
        obtain ⟨b1, o1, rfl, -, hc⟩ := h.at hlt1
        obtain ⟨b2, o2, rfl, -, hc'⟩ := h'.at hlt2
        have hi1 : (k : Int) < (xs.length : Int) := by omega
        have hi2 : (k : Int) < (ys.length : Int) := by omega
        have Hi := Lib.hid (hI.out.trans (dotW_step hlt1 hlt2))
        go_wp2
        go_quiet (fail)
        go_wp2
        go_roundw
        case rel => exact ⟨k + 1, _, _, by omega, by go_num, rfl, rfl, Hi.out⟩
        case measure => simp [intOf]; omega
      · have Hi := Lib.hid (hI.out.trans (dotW_end (by omega)))
        go_wp2
        go_ret
        exact ⟨ret_int Hi.out.symm, _, rfl⟩

theorem dot_any (a b : Option Addr) (c d : Nat) (xs ys : List Int) (w : World) (h : Ints w a xs) (h' : Ints w b ys) :
    Calls Try.prog 76 #[.slice a xs.length c, .slice b ys.length d] w fun e w' => e = .returned (.int .i64 (dotW xs ys 0)) ∧ ∃ n, w' = w.drewN n := by
  go_enter Try.func76, Try.ntmps76
  go_wp2_with fail
  refine (Dot_any _ _ _ _ _ _ _ h h').mono ?_
  rintro e w' ⟨rfl, n, rfl⟩
  go_wp2_with fail
  go_ret
  exact ⟨rfl, _, rfl⟩

theorem layoutOf_any (a : Option Addr) (c : Nat) (s : List Int) (w : World) (h : Ints w a s) :
    Calls Try.prog 75 #[.slice a s.length c] w fun e w' => (∃ p c', e = .returned (.agg #[.slice p (strideS s).length c', .slice a s.length c]) ∧ New w.heap.size w' p 3 ((strideS s).map (.int .i64))) ∧ Below w.heap.size w w' := by
  go_enter Try.func75, Try.ntmps75
  go_wp2_with fail
  refine (Strides_any _ _ _ _ (h.keep ((Below.refl _ _).alloc (Nat.le_refl _) _))).mono ?_
  rintro e w1 ⟨⟨p, c', rfl, hnew⟩, hb⟩
  have hz : w.heap.size + 1 ≤ w1.heap.size := by have := hb.size; simpa using this
  have hv0 := hb.cell (p := ⟨w.heap.size, 0, none⟩) (by simp)
  have hv1 := hb.cell (p := ⟨w.heap.size, 1, none⟩) (by simp)
  have hf0 := hb.frozen (p := ⟨w.heap.size, 0, none⟩) (by simp)
  have hf1 := hb.frozen (p := ⟨w.heap.size, 1, none⟩) (by simp)
  simp [go_sem] at hv0 hv1 hf0 hf1
  go_wp2_with fail
  refine bodyPost_ret (v := .agg #[.slice p (strideS s).length c', .slice a s.length c]) (by simp [results, Try.results75, go_sem, hv0, hv1]) rfl ?_
  refine ⟨⟨p, c', rfl, ?_⟩, ?_⟩
  · exact ((hnew.other (by simp) _).other (by simp) _).mono (by simp)
  · exact (((Below.refl _ w).alloc (Nat.le_refl _) _).trans (hb.mono (by simp))).setCell (Nat.le_refl _) _ |>.setCell (Nat.le_refl _) _
end Go.Proofs.Ythkfjdhakbjllaa
