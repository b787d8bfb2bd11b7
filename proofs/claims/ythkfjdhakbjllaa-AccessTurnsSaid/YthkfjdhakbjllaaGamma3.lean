/- What gamma.Offset returns at right shapes; the reference's Dot, In, Index and Strides. -/
import Derived.Test.YthkfjdhakbjllaaGamma2
namespace Go.Proofs.Ythkfjdhakbjllaa
open Go.RowKit Go.Shelf
set_option linter.unusedVariables false

/-- strides and an index: the sum of products does not overflow -/
theorem dot_small {s ix : List Int} (hs : Shape s) (hv : Valid s ix) : dotW (strs s) ix 0 = dotS (strs s) ix ∧ strideS s = strs s ∧ prod s ≤ 65536 := by
  obtain ⟨hp, hc⟩ := hs.prod_le hv
  have hpos := hv.pos
  have hl := hs.len
  have h1 := prod_pos hpos
  refine ⟨?_, ?_, hp⟩
  · rw [dotW_eq 4294967296 (by omega) (strs s) ix 0, Int.zero_add]
    · intro k hk hk'
      rw [strs_len] at hk
      obtain ⟨g1, g2⟩ := strs_bd hpos hp hk
      have h2 := hv.2 k hk
      have h3 : nth s k ≤ 65536 := (hs.dims _ (nth_mem hk)).2
      have h4 : 0 ≤ nth (strs s) k * nth ix k := Int.mul_nonneg (by omega) h2.1
      have h5 : nth (strs s) k * nth ix k ≤ 65536 * 65536 := Int.mul_le_mul g2 (by omega) h2.1 (by omega)
      omega
    · rw [strs_len]; omega
    · rw [strs_len]; omega
  · unfold strideS
    rw [if_pos (shapeS_zero.2 hs), if_neg (by omega)]

/-- the offset; 0 for a list that is no index -/
def offS (s ix : List Int) : Int := if Valid s ix then dotS (strs s) ix else 0

theorem field_layout (p q : Option Addr) (n c m d : Nat) (w : World) : (Instr.field 105 (.agg #[.slice p n c, .slice q m d]) 0).run Try.prog w = .ok (.slice p n c) w := by kernel_rfl
set_option maxRecDepth 100000 in
theorem Offset_any (a b : Option Addr) (c d : Nat) (s ix : List Int) (w : World) (h : Ints w a s) (h' : Ints w b ix) (hs : Shape s) :
    Calls Try.prog 20 #[.slice a s.length c, .slice b ix.length d] w fun e w' => e = .returned (.tuple #[.int .i64 (offS s ix), .bool (decide (Valid s ix))]) ∧ Below w.heap.size w w' := by
  by_cases hv : Valid s ix
  · obtain ⟨h1, h2, h3⟩ := dot_small hs hv
    have hvd : decide (Valid s ix) = true := decide_eq_true hv
    have e : offS s ix = dotW (strs s) ix 0 := by rw [h1]; exact if_pos hv
    rw [e]
    have H2 := Lib.hid h2
    have hi := Lib.hid (strideS_i64 s)
    have hl := hs.len
    clear e h1 h2 h3
    have hfld := field_layout
    go_enter Try.func20, Try.ntmps20
    go_wp2_with fail
    refine (Valid_any _ _ _ _ _ _ _ h h').mono ?_
    rintro e w' ⟨rfl, n, rfl⟩
    go_wp2_with fail
    refine (layoutOf_any _ _ _ _ (h.keep (below_drewN _ _ _))).mono ?_
    rintro e w1 ⟨⟨p, c', rfl, hnew⟩, hb1⟩
    rw [H2.out] at hnew ⊢
    have hints : Ints w1 p (strs s) := hnew.ints (by rw [← H2.out]; exact hi.out) (by rw [strs_len]; omega)
    have hb : Below w.heap.size w w1 := (below_drewN _ _ _).trans hb1
    go_wp2_with fail
    refine (dot_any _ _ _ _ _ _ _ hints (h'.keep hb)).mono ?_
    rintro e w' ⟨rfl, m, rfl⟩
    go_wp2_with fail
    go_ret2
    exact ⟨by rw [hvd] <;> rfl, hb.trans (below_drewN _ _ _)⟩
  · have hvd : decide (Valid s ix) = false := decide_eq_false hv
    have e : offS s ix = 0 := if_neg hv
    rw [e]
    clear e
    go_enter Try.func20, Try.ntmps20
    go_wp2_with fail
    refine (Valid_any _ _ _ _ _ _ _ h h').mono ?_
    rintro e w' ⟨rfl, n, rfl⟩
    go_wp2_with fail
    go_ret2
    exact ⟨by rw [hvd] <;> rfl, below_drewN _ _ _⟩

theorem RefDot_any (a b : Option Addr) (c d : Nat) (xs ys : List Int) (w : World) (h : Ints w a xs) (h' : Ints w b ys) :
    Calls Try.prog 30 #[.slice a xs.length c, .slice b ys.length d] w fun e w' => e = .returned (.int .i64 (dotW xs ys 0)) ∧ ∃ n, w' = w.drewN n := by
  have hn := h.small
  have hn' := h'.small
  go_enter Try.func30, Try.ntmps30
  go_wp2
  go_loopw [5, 6] (fun n i wr => ∃ (k m : Nat) (q : Int), k ≤ xs.length ∧ k ≤ ys.length ∧ i = .int .i64 k ∧ n = .int .i64 q ∧ wr = w.drewN m ∧ Hid (dotW xs ys 0 = dotW (xs.drop k) (ys.drop k) q)) (fun _ i _ => xs.length - (intOf i).toNat)
  case atStart => exact ⟨0, 0, 0, Nat.zero_le _, Nat.zero_le _, rfl, rfl, rfl, by simp [Hid]⟩
  case round =>
    obtain ⟨k, m, q, hk1, hk2, rfl, rfl, rfl, hI⟩ := hrel
    by_cases hlt1 : k < xs.length
    · by_cases hlt2 : k < ys.length
      · obtain ⟨b1, o1, rfl, -, hc⟩ := h.at hlt1
        obtain ⟨b2, o2, rfl, -, hc'⟩ := h'.at hlt2
        have hi1 : (k : Int) < (xs.length : Int) := by omega
        have hi2 : (k : Int) < (ys.length : Int) := by omega
        have Hi := Lib.hid (hI.out.trans (dotW_step hlt1 hlt2))
        go_wp2
        go_quiet (fail)
        go_wp2
        go_roundw
        case rel => exact ⟨k + 1, _, _, by omega, by omega, by go_num, rfl, rfl, Hi.out⟩
        case measure => simp [intOf]; omega
      · have Hi := Lib.hid (hI.out.trans (dotW_end (by omega)))
        go_wp2
        go_ret
        exact ⟨ret_int Hi.out.symm, _, rfl⟩
    · have Hi := Lib.hid (hI.out.trans (dotW_end (by omega)))
      go_wp2
      go_ret
      exact ⟨ret_int Hi.out.symm, _, rfl⟩

theorem RefIn_any (a : Option Addr) (c : Nat) (s : List Int) (n : Int) (w : World) (h : Ints w a s) :
    Calls Try.prog 24 #[.slice a s.length c, .int .i64 n] w fun e w' => e = .returned (.bool (inS s n)) ∧ w = w' := by
  obtain ⟨hcb1, hcb2⟩ := cellsS_bd s
  by_cases hn0 : n < 0
  · have e : inS s n = false := by unfold inS; exact decide_eq_false (by omega)
    rw [e]
    clear e
    go_enter Try.func24, Try.ntmps24
    go_wp2
    go_ret
    exact ⟨rfl, rfl⟩
  by_cases hn1 : cellsS s ≤ n
  · have e : inS s n = false := by unfold inS; exact decide_eq_false (by omega)
    rw [e]
    clear e
    go_enter Try.func24, Try.ntmps24
    go_wp2_with fail
    refine (RefCells_any _ _ _ _ h).mono ?_
    rintro e w' ⟨rfl, rfl⟩
    go_wp2_with fail
    go_ret
    exact ⟨ret_bool (decide_eq_false (by omega)), rfl⟩
  · have e : inS s n = true := by unfold inS; exact decide_eq_true (by omega)
    rw [e]
    clear e
    go_enter Try.func24, Try.ntmps24
    go_wp2_with fail
    refine (RefCells_any _ _ _ _ h).mono ?_
    rintro e w' ⟨rfl, rfl⟩
    go_wp2_with fail
    go_ret
    exact ⟨rfl, rfl⟩

theorem emod_mul_div {n b c : Int} (hc : 0 < c) : n % (c * b) / c = n / c % b := by
  rw [Int.emod_def, Int.emod_def, Int.mul_assoc, Int.sub_mul_ediv_left _ _ (by omega), Int.ediv_ediv_of_nonneg (by omega)]

theorem unoff_drop {s : List Int} {n : Int} (h1 : 0 ≤ n) (h2 : n < prod s) : ∀ k, k ≤ s.length → unoff (s.drop k) (n % prod (s.drop k)) = (unoff s n).drop k := by
  intro k
  induction k with
  | zero => intro _; rw [List.drop_zero, List.drop_zero, Int.emod_eq_of_lt h1 h2]
  | succ k ih =>
    intro hk
    have hk' : k < s.length := by omega
    have h3 := ih (by omega)
    rw [unoff_step hk', drop_nth (xs := unoff s n) (by rw [unoff_len]; exact hk')] at h3
    injection h3 with h4 h5
    rw [← h5, prod_drop_step hk', Int.emod_emod_of_dvd _ (Int.dvd_mul_right _ _)]

/-- number k of the index with an offset -/
theorem unoff_nth {s : List Int} (hp : ∀ x ∈ s, 0 < x) {n : Int} (h1 : 0 ≤ n) (h2 : n < prod s) {k : Nat} (hk : k < s.length) :
    nth (unoff s n) k = n / prod (s.drop (k + 1)) % nth s k := by
  have h3 := unoff_drop h1 h2 k (by omega)
  rw [unoff_step hk, drop_nth (xs := unoff s n) (by rw [unoff_len]; exact hk)] at h3
  injection h3 with h4 _
  have hpd : 0 < prod (s.drop (k + 1)) := prod_pos fun x hx => hp x (List.mem_of_mem_drop hx)
  rw [← h4, prod_drop_step hk, emod_mul_div hpd]

set_option maxHeartbeats 1000000 in
theorem RefIndex_any (a : Option Addr) (c : Nat) (s : List Int) (n : Int) (w : World) (h : Ints w a s) (hp : ∀ x ∈ s, 0 < x) (hb : prod s ≤ 65536) (h1 : 0 ≤ n) (h2 : n < prod s) (hl : s.length ≤ 16) :
    Calls Try.prog 27 #[.slice a s.length c, .int .i64 n] w fun e w' =>
      (∃ q c', e = .returned (.slice q (unoff s n).length c') ∧ New w.heap.size w' q 3 ((unoff s n).map (.int .i64))) ∧ Below w.heap.size w w' := by
  have Hp := Lib.hid hp
  have Hb := Lib.hid hb
  have h3 : n ≤ 65536 := by omega
  have H2 := Lib.hid h2
  clear hp hb h2
  go_enter Try.func27, Try.ntmps27
  go_wp2_with (at_make; refine make_ints rfl _ _ rfl s.length rfl rfl (by omega) ?_; intro w1 hown hg)
  have hbw := below_grown hg
  clear hg
  go_loopw [1, 6] (fun o i wr => ∃ (k : Nat) (q : Int) (vs : List Int), k ≤ s.length ∧ i = .int .i64 ((k : Int) - 1) ∧ o = .int .i64 q ∧ 0 ≤ q ∧ q ≤ 65536 ∧ Own wr w.heap.size 3 (vs.map (.int .i64)) ∧ Below w.heap.size w wr ∧
      Hid (q = n / prod (s.drop k) ∧ vs.length = s.length ∧ ∀ j, k ≤ j → j < s.length → nth vs j = nth (unoff s n) j)) (fun _ i _ => (intOf i + 1).toNat)
  case atStart => exact ⟨s.length, n, _, Nat.le_refl _, rfl, rfl, h1, h3, hown, hbw, by simp [prod_nil], by simp, fun j h1 h2 => by omega⟩
  case round =>
    obtain ⟨k, q, vs, hk, rfl, rfl, hq1, hq2, ho, hbr, hI⟩ := hrel
    cases k with
    | zero =>
      go_wp2
      go_ret
      have e : vs = unoff s n := ext_nth (by rw [hI.out.2.1, unoff_len]) fun j hj => hI.out.2.2 j (Nat.zero_le _) (by have := hI.out.2.1; omega)
      subst e
      refine ⟨⟨_, s.length, ?_, .inr ⟨_, rfl, Nat.le_refl _, ho⟩⟩, hbr⟩
      rw [unoff_len]
      rfl
    | succ k =>
      have hlt : k < s.length := by omega
      have ek : ((k + 1 : Nat) : Int) - 1 = (k : Int) := by omega
      rw [ek]
      clear ek
      obtain ⟨b1, o1, rfl, hb1, hc⟩ := h.at hlt
      have hne : ¬ b1 = w.heap.size := by omega
      have hc := (hbr.cell (p := ⟨b1, o1 + k, none⟩) hb1).trans hc
      have hvk : k < vs.length := by rw [hI.out.2.1]; exact hlt
      have hcell := ho.cell (nth_map hvk)
      have hfr := ho.frozen k
      have g1 : 1 ≤ nth s k := Hp.out _ (nth_mem hlt)
      have hpd : 0 < prod (s.drop (k + 1)) := prod_pos fun x hx => Hp.out x (List.mem_of_mem_drop hx)
      have hn := unoff_nth Hp.out h1 H2.out hlt
      rw [← hI.out.1] at hn
      have hdiv : q / nth s k = n / prod (s.drop k) := by rw [hI.out.1, Int.ediv_ediv_of_nonneg (by omega), ← prod_drop_step hlt]
      have Hd := Lib.hid hdiv
      have hm1 : 0 ≤ q % nth s k := Int.emod_nonneg _ (by omega)
      have hd1 : 0 ≤ q / nth s k := Int.ediv_nonneg hq1 (by omega)
      have hm2 : q % nth s k ≤ 65536 := by have := Int.mul_nonneg (show 0 ≤ nth s k by omega) hd1; rw [Int.emod_def]; omega
      have hd2 : q / nth s k ≤ 65536 := by have := Int.ediv_le_self (nth s k) hq1; omega
      have ho' := ho.set (i := k) (by simpa using hvk) (.int .i64 (q % nth s k))
      rw [map_set] at ho'
      have Hi : Hid ((vs.set k (q % nth s k)).length = s.length ∧ ∀ j, k ≤ j → j < s.length → nth (vs.set k (q % nth s k)) j = nth (unoff s n) j) := by
        refine ⟨by rw [List.length_set]; exact hI.out.2.1, fun j hj hj2 => ?_⟩
        by_cases hjk : j = k
        · subst hjk
          rw [nth_set hvk, hn]
        · rw [nth_set_ne hjk]
          exact hI.out.2.2 j (by omega) hj2
      clear hn hdiv
      have hlen1 : (k : Int) < (s.length : Int) := by omega
      go_wp2
      go_roundw
      case rel => exact ⟨k, _, _, by omega, rfl, rfl, hd1, hd2, ho', hbr.setCell (Nat.le_refl _) _, Hd.out, Hi.out.1, Hi.out.2⟩
      case measure => simp [intOf]
end Go.Proofs.Ythkfjdhakbjllaa
