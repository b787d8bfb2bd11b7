/- What gamma.Offset and gamma.Index return (an offset, an index in a new row), and the reference's Dot, In and Index. -/
import Derived.Test.YthkfjdhakbjllaaGamma
namespace Go.Proofs.Ythkfjdhakbjllaa
open Go.RowKit Go.Shelf

theorem below_grown {w w' : World} (h : w.grownBy w' none) : Below w.heap.size w w' := (Below.refl _ w).grown h (Nat.le_refl _) (fun k hk => by cases hk)

theorem unoff_step {s : List Int} {q : Int} {k : Nat} (hk : k < s.length) : unoff (s.drop k) q = (q / prod (s.drop (k + 1))) :: unoff (s.drop (k + 1)) (q % prod (s.drop (k + 1))) := by
  rw [drop_nth hk, unoff]

/-- the state of the loop that finds an index: k numbers are found, q is left -/
def IxAt (s : List Int) (n : Int) (k : Nat) (q : Int) : Prop := 0 ≤ q ∧ q < prod (s.drop k) ∧ unoff (s.drop k) q = (unoff s n).drop k

theorem IxAt.zero {s : List Int} {n : Int} (h1 : 0 ≤ n) (h2 : n < prod s) : IxAt s n 0 n := ⟨h1, h2, rfl⟩
theorem IxAt.step {s : List Int} {n : Int} {k : Nat} {q : Int} (hp : ∀ x ∈ s, 0 < x) (hk : k < s.length) (h : IxAt s n k q) :
    IxAt s n (k + 1) (q % nth (strs s) k) ∧ nth (unoff s n) k = q / nth (strs s) k := by
  obtain ⟨h1, h2, h3⟩ := h
  have hps : 0 < prod (s.drop (k + 1)) := prod_pos fun x hx => hp x (List.mem_of_mem_drop hx)
  rw [strs_nth s k hk]
  have hlen : k < (unoff s n).length := by rw [unoff_len]; exact hk
  rw [unoff_step hk, drop_nth hlen] at h3
  injection h3 with h4 h5
  exact ⟨⟨Int.emod_nonneg _ (by omega), Int.emod_lt_of_pos _ hps, h5⟩, h4.symm⟩

theorem strs_bd {s : List Int} (hp : ∀ x ∈ s, 0 < x) (hb : prod s ≤ 65536) {k : Nat} (hk : k < s.length) : 1 ≤ nth (strs s) k ∧ nth (strs s) k ≤ 65536 := by
  have := strs_i64 hp hb _ (nth_mem (xs := strs s) (k := k) (by rw [strs_len]; exact hk))
  omega

theorem unoff_bd {s : List Int} (hp : ∀ x ∈ s, 0 < x) (hb : prod s ≤ 65536) {n : Int} (h1 : 0 ≤ n) (h2 : n < prod s) : ∀ x ∈ unoff s n, 0 ≤ x ∧ x < 65536 := by
  intro x hx
  obtain ⟨v, o⟩ := unoff_off s hp n h1 h2
  obtain ⟨k, hk, rfl⟩ := List.getElem_of_mem hx
  have e := nth_get? hk
  rw [List.getElem?_eq_getElem hk] at e
  rw [Option.some.inj e]
  rw [unoff_len] at hk
  have h3 := v.2 k hk
  have h4 := strs_bd hp hb hk
  have h5 : prod (s.drop k) ≤ 65536 := by have := prod_drop_le hp k; omega
  have h6 := prod_drop_step hk
  have h7 : 0 < prod (s.drop (k + 1)) := prod_pos fun x hx => hp x (List.mem_of_mem_drop hx)
  have h8 : nth s k ≤ nth s k * prod (s.drop (k + 1)) := le_mul_pos (by omega) h7
  rw [Int.mul_comm] at h8
  omega

set_option maxHeartbeats 1000000 in
theorem index_any (p a : Option Addr) (c d : Nat) (s : List Int) (n : Int) (w : World) (h : Ints w p (strs s)) (hp : ∀ x ∈ s, 0 < x) (hb : prod s ≤ 65536) (h1 : 0 ≤ n) (h2 : n < prod s) (hl : s.length ≤ 16) :
    Calls Try.prog 78 #[.agg #[.slice p s.length c, .slice a s.length d], .int .i64 n] w fun e w' =>
      (∃ q c', e = .returned (.slice q (unoff s n).length c') ∧ New w.heap.size w' q 3 ((unoff s n).map (.int .i64))) ∧ Below w.heap.size w w' := by
  have Hp := Lib.hid hp
  have Hb := Lib.hid hb
  have h3 : n ≤ 65536 := by omega
  have H2 := Lib.hid h2
  clear hp hb h2
  go_enter Try.func78, Try.ntmps78
  go_wp2_with (at_make; refine make_ints rfl _ _ rfl s.length rfl rfl (by omega) ?_; intro w1 hown hg; simp only [World.size_alloc] at hown; have hb1 := below_grown hg; have hc0 := hb1.cell (p := ⟨w.heap.size, 0, none⟩) (by simp); have hc1 := hb1.cell (p := ⟨w.heap.size, 1, none⟩) (by simp); simp [go_sem] at hc0 hc1)
  have hb0 : Below w.heap.size w (w.alloc (.cells #[.slice p s.length c, .slice a s.length d] 105)) := (Below.refl _ _).alloc (Nat.le_refl _) _
  have hbw := hb0.trans (hb1.mono (by simp))
  have hz1 : w.heap.size + 1 < w1.heap.size := hown.lt
  clear hb0 hb1 hg
  go_loopw [1, 15] (fun o i wr => ∃ (k : Nat) (q : Int) (vs : List Int), k ≤ s.length ∧ i = .int .i64 k ∧ o = .int .i64 q ∧ 0 ≤ q ∧ q ≤ 65536 ∧ Own wr (w.heap.size + 1) 3 (vs.map (.int .i64)) ∧ Below w.heap.size w wr ∧
      Hid (IxAt s n k q ∧ vs.length = s.length ∧ ∀ j, j < k → nth vs j = nth (unoff s n) j)) (fun _ i _ => s.length - (intOf i).toNat)
  case atStart => exact ⟨0, n, _, Nat.zero_le _, rfl, rfl, h1, h3, hown, hbw, IxAt.zero h1 H2.out, by simp, fun j hj => by omega⟩
  case round =>
    obtain ⟨k, q, vs, hk, rfl, rfl, hq1, hq2, ho, hbr, hI⟩ := hrel
    by_cases hlt : k < s.length
    · obtain ⟨b1, o1, rfl, -, hc⟩ := (h.keep hbr).at (k := k) (by rw [strs_len]; exact hlt)
      have hvk : k < vs.length := by rw [hI.out.2.1]; exact hlt
      have hcell := ho.cell (nth_map hvk)
      have hfr := ho.frozen k
      obtain ⟨g1, g2⟩ := strs_bd Hp.out Hb.out hlt
      obtain ⟨hst, hnth⟩ := hI.out.1.step Hp.out hlt
      have Hst := Lib.hid hst
      have hm1 := hst.1
      have hm2 : q % nth (strs s) k ≤ 65536 := by have := Int.emod_lt_of_pos q (show 0 < nth (strs s) k by omega); omega
      have ho' := ho.set (i := k) (by simpa using hvk) (.int .i64 (q / nth (strs s) k))
      rw [map_set] at ho'
      have Hi : Hid ((vs.set k (q / nth (strs s) k)).length = s.length ∧ ∀ j, j < k + 1 → nth (vs.set k (q / nth (strs s) k)) j = nth (unoff s n) j) := by
        refine ⟨by rw [List.length_set]; exact hI.out.2.1, fun j hj => ?_⟩
        by_cases hjk : j = k
        · subst hjk
          rw [nth_set hvk, hnth]
        · rw [nth_set_ne hjk]
          exact hI.out.2.2 j (by omega)
      clear hst hnth
      have hlen1 : (k : Int) < (s.length : Int) := by omega
      go_wp2
      go_roundw
      case rel => exact ⟨k + 1, _, _, by omega, by go_num, rfl, hm1, hm2, ho', hbr.setCell (by simp) _, Hst.out, Hi.out.1, Hi.out.2⟩
      case measure => simp [intOf]; omega
    · go_wp2
      go_ret
      have e : vs = unoff s n := ext_nth (by rw [hI.out.2.1, unoff_len]) fun j hj => hI.out.2.2 j (by have := hI.out.2.1; omega)
      subst e
      refine ⟨⟨_, s.length, ?_, .inr ⟨_, rfl, Nat.le_succ _, ho⟩⟩, hbr⟩
      rw [unoff_len]
      rfl

/-- the offset is in the range of the shape -/
def inS (s : List Int) (n : Int) : Bool := decide (0 ≤ n ∧ n < cellsS s)
/-- the index with an offset; none out of range -/
def ixS (s : List Int) (n : Int) : List Int := if inS s n = true then unoff s n else []

theorem inS_shape {s : List Int} {n : Int} (h : inS s n = true) : Shape s ∧ (∀ x ∈ s, 0 < x) ∧ prod s = cellsS s ∧ prod s ≤ 65536 ∧ 0 ≤ n ∧ n < prod s ∧ strideS s = strs s := by
  unfold inS at h
  have h := of_decide_eq_true h
  have hz : shapeS s = 0 := by
    by_cases hz : shapeS s = 0
    · exact hz
    · unfold cellsS at h
      rw [if_neg hz] at h
      omega
  have hs := shapeS_zero.1 hz
  obtain ⟨h1, h2, h3⟩ := hs.pos (by omega)
  refine ⟨hs, h1, h2, h3, h.1, by omega, ?_⟩
  unfold strideS
  rw [if_pos hz, if_neg (by omega)]

theorem Index_any' (a : Option Addr) (c : Nat) (s : List Int) (n : Int) (w : World) (h : Ints w a s) :
    Calls Try.prog 21 #[.slice a s.length c, .int .i64 n] w fun e w' =>
      (∃ q c', e = .returned (.tuple #[.slice q (ixS s n).length c', .bool (inS s n)]) ∧ New w.heap.size w' q 3 ((ixS s n).map (.int .i64))) ∧ Below w.heap.size w w' := by
  have hcb := cellsS_bd s
  obtain ⟨hcb1, hcb2⟩ := hcb
  by_cases hn0 : n < 0
  · have e : inS s n = false := by unfold inS; exact decide_eq_false (by omega)
    have e' : ixS s n = [] := by unfold ixS; rw [if_neg (by simp [e])]
    rw [e, e']
    clear e e'
    go_enter Try.func21, Try.ntmps21
    go_wp2
    go_ret2
    exact ⟨⟨none, 0, rfl, .inl rfl⟩, Below.refl _ _⟩
  by_cases hn1 : cellsS s ≤ n
  · have e : inS s n = false := by unfold inS; exact decide_eq_false (by omega)
    have e' : ixS s n = [] := by unfold ixS; rw [if_neg (by simp [e])]
    rw [e, e']
    clear e e'
    go_enter Try.func21, Try.ntmps21
    go_wp2_with fail
    refine (ShapeCells_any _ _ _ _ h).mono ?_
    rintro e w' ⟨rfl, rfl⟩
    go_wp2_with fail
    go_ret2
    exact ⟨⟨none, 0, rfl, .inl rfl⟩, Below.refl _ _⟩
  · have e : inS s n = true := by unfold inS; exact decide_eq_true (by omega)
    have e' : ixS s n = unoff s n := by unfold ixS; rw [if_pos e]
    obtain ⟨hs, hp, -, hb, h1, h2, hst⟩ := inS_shape e
    have hl := hs.len
    rw [e, e']
    have Hst := Lib.hid hst
    have Hp := Lib.hid hp
    have Hb := Lib.hid hb
    have H2 := Lib.hid h2
    have hi := strideS_i64 s
    have Hi := Lib.hid hi
    clear e e' hst hp hb h2 hi
    go_enter Try.func21, Try.ntmps21
    go_wp2_with fail
    refine (ShapeCells_any _ _ _ _ h).mono ?_
    rintro e w' ⟨rfl, rfl⟩
    go_wp2_with fail
    refine (layoutOf_any _ _ _ _ h).mono ?_
    rintro e w1 ⟨⟨p, c', rfl, hnew⟩, hb1⟩
    rw [Hst.out] at hnew
    have hints : Ints w1 p (strs s) := hnew.ints (by rw [← Hst.out]; exact Hi.out) (by rw [strs_len]; omega)
    rw [Hst.out, strs_len]
    go_wp2_with fail
    refine (index_any _ _ _ _ _ _ _ hints Hp.out Hb.out h1 H2.out hl).mono ?_
    rintro e w2 ⟨⟨q, c2, rfl, hnew2⟩, hb2⟩
    go_wp2_with fail
    go_ret2
    exact ⟨⟨q, c2, rfl, hnew2.mono hb1.size⟩, hb1.trans (hb2.mono hb1.size)⟩
end Go.Proofs.Ythkfjdhakbjllaa
