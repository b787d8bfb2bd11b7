/- What the functions of package shape return: Check, Cells, Equal, Strides, at all lists (a list of any length for the first three; Strides makes its row). -/
import Derived.Test.YtfifjokmhhakkaaDoorRef02
import Derived.Test.YtfifjokmhhakkaaDoorShapePlain
import Derived.Test.YtfifjokmhhakkaaDoorOwn
namespace Go.Proofs.YtfifjokmhhakkaaDoor
open Go.RowKit Go.Shelf

theorem shapeS_of {s : List Int} {p q : Int} (h : prodR s = (p, q)) : shapeS s = if q ≠ 6 ∧ 16 < s.length then 7 else q := by
  unfold shapeS
  rw [h]
  cases hn : s.any neg with
  | true =>
    have := prodR_neg hn
    rw [h] at this
    cases this
    simp
  | false =>
    have := prodR_six s hn
    rw [h] at this
    simp only [Bool.false_eq_true, if_false]
    by_cases hl : 16 < s.length
    · rw [if_pos hl, if_pos ⟨by simp at this; omega, hl⟩]
    · rw [if_neg hl, if_neg (fun h => hl h.2)]

theorem sizeProduct_is (xs : List Int) (p q : Int) (hr : prodR xs = (p, q)) (a : Option Addr) (c : Nat) (w : World) (h : Ints w a xs) :
    Calls Tryd.prog 25 #[.slice a xs.length c] w fun e w' => e = .returned (.tuple #[.int .i64 p, .int .i64 q]) ∧ w = w' := by
  have := Product_any a c xs w h
  rw [hr] at this
  exact this

theorem ShapeCheck_any (a : Option Addr) (c : Nat) (xs : List Int) (w : World) (h : Ints w a xs) :
    Calls Tryd.prog 16 #[.slice a xs.length c] w fun e w' => e = .returned (.int .i64 (shapeS xs)) ∧ w = w' := by
  have hn := h.small
  obtain ⟨p, q, hpq⟩ : ∃ p q, prodR xs = (p, q) := ⟨_, _, rfl⟩
  have Hp := Lib.hid (sizeProduct_is xs p q hpq)
  have hs := shapeS_of hpq
  clear hpq
  by_cases h6 : q = 6
  · subst h6
    have H : Hid (shapeS xs = 6) := by rw [hs]; exact if_neg (fun h => h.1 rfl)
    clear hs
    go_enter Tryd.func16, Tryd.ntmps16
    go_wp2_with fail
    refine (Hp.out _ _ _ h).mono ?_
    rintro e w' ⟨rfl, rfl⟩
    go_wp2_with fail
    go_ret
    exact ⟨ret_int H.out.symm, rfl⟩
  · have h6b : (q != 6) = true := by simp [h6]
    by_cases hl : 16 < xs.length
    · have H : Hid (shapeS xs = 7) := by rw [hs]; exact if_pos ⟨h6, hl⟩
      clear hs
      go_enter Tryd.func16, Tryd.ntmps16
      go_wp2_with fail
      refine (Hp.out _ _ _ h).mono ?_
      rintro e w' ⟨rfl, rfl⟩
      go_wp2_with fail
      go_ret
      exact ⟨ret_int H.out.symm, rfl⟩
    · have H : Hid (shapeS xs = q) := by rw [hs]; exact if_neg (fun h => hl h.2)
      clear hs
      go_enter Tryd.func16, Tryd.ntmps16
      go_wp2_with fail
      refine (Hp.out _ _ _ h).mono ?_
      rintro e w' ⟨rfl, rfl⟩
      go_wp2_with fail
      go_ret
      exact ⟨ret_int H.out.symm, rfl⟩

theorem ShapeCells_any (a : Option Addr) (c : Nat) (xs : List Int) (w : World) (h : Ints w a xs) :
    Calls Tryd.prog 11 #[.slice a xs.length c] w fun e w' => e = .returned (.int .i64 (cellsS xs)) ∧ w = w' := by
  by_cases hz : shapeS xs = 0
  · have e : cellsS xs = (prodR xs).1 := by unfold cellsS; rw [if_pos hz]
    rw [e]
    clear e
    go_enter Tryd.func11, Tryd.ntmps11
    go_wp2_with fail
    refine (ShapeCheck_any _ _ _ _ h).mono ?_
    rintro e w' ⟨rfl, rfl⟩
    go_wp2_with fail
    refine (Product_any _ _ _ _ h).mono ?_
    rintro e w' ⟨rfl, rfl⟩
    go_wp2_with fail
    go_ret
    exact ⟨rfl, rfl⟩
  · have e : cellsS xs = 0 := by unfold cellsS; rw [if_neg hz]
    rw [e]
    clear e
    have hb : (shapeS xs != 0) = true := by simp [hz]
    go_enter Tryd.func11, Tryd.ntmps11
    go_wp2_with fail
    refine (ShapeCheck_any _ _ _ _ h).mono ?_
    rintro e w' ⟨rfl, rfl⟩
    go_wp2_with fail
    go_ret
    exact ⟨rfl, rfl⟩

theorem SlicesEqual_any (a b : Option Addr) (c d : Nat) (xs ys : List Int) (w : World) (h : Ints w a xs) (h' : Ints w b ys) :
    Calls Tryd.prog 26 #[.slice a xs.length c, .slice b ys.length d] w fun e w' => e = .returned (.bool (eqS xs ys)) ∧ ∃ n, w' = w.drewN n := by
  have hn := h.small
  have hn' := h'.small
  by_cases hlen : xs.length = ys.length
  · have hlb : ((xs.length : Int) != (ys.length : Int)) = false := by simp [hlen]
    have Hlen := Lib.hid hlen
    have hle : xs.length ≤ ys.length := by omega
    have hge : ys.length ≤ xs.length := by omega
    clear hlen
    go_enter Tryd.func26, Tryd.ntmps26
    go_wp2
    go_loopw [13] (fun i wr => ∃ k m : Nat, k ≤ xs.length ∧ i = .int .i64 k ∧ wr = w.drewN m ∧ Hid (xs.take k = ys.take k)) (fun i _ => xs.length - (intOf i).toNat)
    case atStart => exact ⟨0, 0, Nat.zero_le _, rfl, rfl, by simp [Hid]⟩
    case round =>
      obtain ⟨k, m, hk, rfl, rfl, hI⟩ := hrel
      by_cases hlt : k < xs.length
      · have hlt' : k < ys.length := by omega
        obtain ⟨b1, o1, rfl, -, hc⟩ := h.at hlt
        obtain ⟨b2, o2, rfl, -, hc'⟩ := h'.at hlt'
        have hi1 : (k : Int) < (xs.length : Int) := by omega
        have hi2 : (k : Int) < (ys.length : Int) := by omega
        by_cases hx : nth xs k = nth ys k
        · have hxb : (nth xs k != nth ys k) = false := by simp [hx]
          have Hx := Lib.hid hx
          clear hx
          have Hi : Hid (xs.take (k + 1) = ys.take (k + 1)) := by unfold Hid; rw [take_nth hlt, take_nth hlt', hI.out, Hx.out]
          go_wp2
          go_quiet (fail)
          go_wp2
          go_roundw
          case rel => exact ⟨k + 1, _, by omega, by go_num, rfl, Hi⟩
          case measure => simp [intOf]; omega
        · have hxb : (nth xs k != nth ys k) = true := by simp [hx]
          have Hi : Hid (eqS xs ys = false) := by
            unfold Hid eqS
            rw [decide_eq_false_iff_not]
            rintro rfl
            exact hx rfl
          clear hx
          go_wp2
          go_quiet (fail)
          go_wp2
          go_ret
          exact ⟨ret_bool Hi.out.symm, quiet_add _ _ _⟩
      · have Hi : Hid (eqS xs ys = true) := by
          have := hI.out
          rw [List.take_of_length_le (by omega), List.take_of_length_le (by omega)] at this
          simp [Hid, eqS, this]
        go_wp2
        go_ret
        exact ⟨ret_bool Hi.out.symm, _, rfl⟩
  · have hlb : ((xs.length : Int) != (ys.length : Int)) = true := by simp; omega
    have Hi : Hid (eqS xs ys = false) := by
      unfold Hid eqS
      rw [decide_eq_false_iff_not]
      rintro rfl
      exact hlen rfl
    go_enter Tryd.func26, Tryd.ntmps26
    go_wp2
    go_ret
    exact ⟨ret_bool Hi.out.symm, 0, rfl⟩

theorem ShapeEqual_any (a b : Option Addr) (c d : Nat) (xs ys : List Int) (w : World) (h : Ints w a xs) (h' : Ints w b ys) :
    Calls Tryd.prog 13 #[.slice a xs.length c, .slice b ys.length d] w fun e w' => e = .returned (.bool (eqS xs ys)) ∧ ∃ n, w' = w.drewN n := by
  go_enter Tryd.func13, Tryd.ntmps13
  go_wp2_with fail
  refine (SlicesEqual_any _ _ _ _ _ _ _ h h').mono ?_
  rintro e w' ⟨rfl, n, rfl⟩
  go_wp2_with fail
  go_ret
  exact ⟨rfl, _, rfl⟩

/-- the strides of a shape: none without a right shape, zeros without cells -/
def strideS (s : List Int) : List Int := if shapeS s = 0 then (if cellsS s = 0 then List.replicate s.length 0 else strs s) else []

theorem Shape.pos {s : List Int} (h : Shape s) (hc : cellsS s ≠ 0) : (∀ x ∈ s, 0 < x) ∧ prod s = cellsS s ∧ prod s ≤ 65536 := by
  have hz : (0 : Int) ∉ s := fun hz => hc (h.cells.2.1 hz)
  obtain ⟨h1, h2, h3⟩ := h.cells.2.2 hz
  have := prodL_prod s 1 _ h1
  refine ⟨fun x hx => ?_, by omega, by omega⟩
  have := h.dims x hx
  have : x ≠ 0 := fun e => hz (e ▸ hx)
  omega

theorem prod_drop_step {s : List Int} {k : Nat} (hk : k < s.length) : prod (s.drop k) = prod (s.drop (k + 1)) * nth s k := by
  rw [drop_nth hk, prod_cons, Int.mul_comm]

theorem strs_i64 {s : List Int} (h : ∀ x ∈ s, 0 < x) (hp : prod s ≤ 65536) : ∀ x ∈ strs s, 0 < x ∧ x ≤ 65536 := by
  intro x hx
  obtain ⟨k, hk, rfl⟩ := List.getElem_of_mem hx
  have e := nth_get? hk
  rw [List.getElem?_eq_getElem hk] at e
  rw [strs_len] at hk
  rw [Option.some.inj e, strs_nth s k hk]
  have h1 := prod_drop_le h (k + 1)
  have h2 := prod_pos (l := s.drop (k + 1)) fun x hx => h x (List.mem_of_mem_drop hx)
  omega

theorem strideS_i64 (s : List Int) : ∀ x ∈ strideS s, I64 x := by
  unfold strideS
  split
  · rename_i h0
    have hs := shapeS_zero.1 h0
    split
    · intro x hx
      have := List.eq_of_mem_replicate hx
      subst this
      exact ⟨by omega, by omega⟩
    · rename_i hc
      obtain ⟨h1, h2, h3⟩ := hs.pos hc
      intro x hx
      have := strs_i64 h1 h3 x hx
      exact ⟨by omega, by omega⟩
  · intro x hx
    cases hx

theorem strideS_len (s : List Int) : (strideS s).length ≤ s.length := by
  unfold strideS
  split
  · split
    · simp
    · rw [strs_len]; exact Nat.le_refl _
  · simp

theorem nth_map {xs : List Int} {k : Nat} (hk : k < xs.length) : (xs.map (Value.int .i64))[k]? = some (.int .i64 (nth xs k)) := by
  simp [nth_get? hk]
theorem map_set (xs : List Int) (k : Nat) (v : Int) : (xs.map (Value.int .i64)).set k (.int .i64 v) = (xs.set k v).map (.int .i64) := by
  rw [List.map_set]
theorem nth_set {xs : List Int} {k : Nat} (hk : k < xs.length) (v : Int) : nth (xs.set k v) k = v := by
  unfold nth
  simp [List.getD_eq_getElem?_getD, hk]
theorem nth_set_ne {xs : List Int} {j k : Nat} (h : j ≠ k) (v : Int) : nth (xs.set k v) j = nth xs j := by
  unfold nth
  simp [List.getD_eq_getElem?_getD, List.getElem?_set_ne (Ne.symm h)]

set_option maxHeartbeats 1000000 in
theorem Strides_any (a : Option Addr) (c : Nat) (s : List Int) (w : World) (h : Ints w a s) :
    Calls Tryd.prog 10 #[.slice a s.length c] w fun e w' => (∃ p c', e = .returned (.slice p (strideS s).length c') ∧ New w.heap.size w' p 3 ((strideS s).map (.int .i64))) ∧ Below w.heap.size w w' := by
  by_cases hz : shapeS s = 0
  · have hs := shapeS_zero.1 hz
    have hl := hs.len
    have hn : s.length ≤ 9223372036854775807 := by omega
    by_cases hc : cellsS s = 0
    · have e : strideS s = List.replicate s.length 0 := by unfold strideS; rw [if_pos hz, if_pos hc]
      rw [e]
      have He := Lib.hid e
      clear e
      go_enter Tryd.func10, Tryd.ntmps10
      go_wp2_with fail
      refine (ShapeCheck_any _ _ _ _ h).mono ?_
      rintro e w' ⟨rfl, rfl⟩
      go_wp2_with (at_make; refine make_ints rfl _ _ rfl s.length rfl rfl (by omega) ?_; intro w1 hown hg)
      have hb : Below w.heap.size w w1 := (Below.refl _ w).grown hg (Nat.le_refl _) (fun k hk => by cases hk)
      refine (ShapeCells_any _ _ _ _ (h.keep hb)).mono ?_
      rintro e w' ⟨rfl, rfl⟩
      go_wp2_with fail
      go_ret
      refine ⟨⟨_, s.length, ?_, .inr ⟨_, rfl, Nat.le_refl _, hown⟩⟩, hb⟩
      simp
    · have e : strideS s = strs s := by unfold strideS; rw [if_pos hz, if_neg hc]
      rw [e]
      clear e
      have hcb : (cellsS s == 0) = false := by simp [hc]
      obtain ⟨hp1, hp2, hp3⟩ := hs.pos hc
      have Hp1 := Lib.hid hp1
      clear hp1 hp2
      go_enter Tryd.func10, Tryd.ntmps10
      go_wp2_with fail
      refine (ShapeCheck_any _ _ _ _ h).mono ?_
      rintro e w' ⟨rfl, rfl⟩
      go_wp2_with (at_make; refine make_ints rfl _ _ rfl s.length rfl rfl (by omega) ?_; intro w1 hown hg)
      have hb : Below w.heap.size w w1 := (Below.refl _ w).grown hg (Nat.le_refl _) (fun k hk => by cases hk)
      refine (ShapeCells_any _ _ _ _ (h.keep hb)).mono ?_
      rintro e w' ⟨rfl, rfl⟩
      go_wp2_with fail
      go_loopw [4, 19] (fun n i wr => ∃ (k : Nat) (vs : List Int), k ≤ s.length ∧ i = .int .i64 k ∧ n = .int .i64 (prod (s.drop (s.length - k))) ∧ Own wr w.heap.size 3 (vs.map (.int .i64)) ∧ Below w.heap.size w wr ∧
          Hid (vs.length = s.length ∧ ∀ j, s.length - k ≤ j → j < s.length → nth vs j = nth (strs s) j)) (fun _ i _ => s.length - (intOf i).toNat)
      case atStart => exact ⟨0, _, Nat.zero_le _, rfl, by simp [prod_nil], hown, hb, by simp, fun j h1 h2 => by omega⟩
      case round =>
        obtain ⟨k, vs, hk, rfl, rfl, ho, hbw, hI⟩ := hrel
        by_cases hlt : k < s.length
        · have hkk : s.length - 1 - k < s.length := by omega
          obtain ⟨b1, o1, rfl, hb1, hc⟩ := h.at hkk
          have hne : ¬ b1 = w.heap.size := by omega
          have hc := (hbw.cell (p := ⟨b1, o1 + (s.length - 1 - k), none⟩) hb1).trans hc
          have hvk : s.length - 1 - k < vs.length := by rw [hI.out.1]; exact hkk
          have hcell := ho.cell (nth_map hvk)
          have hfr := ho.frozen (s.length - 1 - k)
          have hst := prod_drop_step hkk
          have e1 : s.length - 1 - k + 1 = s.length - k := by omega
          have e2 : s.length - 1 - k = s.length - (k + 1) := by omega
          rw [e1] at hst
          have hq1 : 0 < prod (s.drop (s.length - k)) := prod_pos fun x hx => Hp1.out x (List.mem_of_mem_drop hx)
          have hq2 : prod (s.drop (s.length - k)) ≤ 65536 := by have := prod_drop_le Hp1.out (s.length - k); omega
          have hq3 : prod (s.drop (s.length - 1 - k)) ≤ 65536 := by have := prod_drop_le Hp1.out (s.length - 1 - k); omega
          have hq4 : 0 < prod (s.drop (s.length - 1 - k)) := prod_pos fun x hx => Hp1.out x (List.mem_of_mem_drop hx)
          have ho' := ho.set (i := s.length - 1 - k) (by simpa using hvk) (.int .i64 (prod (s.drop (s.length - k))))
          rw [map_set] at ho'
          have hm1 : prod (s.drop (s.length - k)) * nth s (s.length - 1 - k) ≤ 65536 := by omega
          have hm2 : 0 < prod (s.drop (s.length - k)) * nth s (s.length - 1 - k) := by omega
          have Hst := Lib.hid hst
          have Hi : Hid ((vs.set (s.length - 1 - k) (prod (s.drop (s.length - k)))).length = s.length ∧ ∀ j, s.length - (k + 1) ≤ j → j < s.length → nth (vs.set (s.length - 1 - k) (prod (s.drop (s.length - k)))) j = nth (strs s) j) := by
            refine ⟨by rw [List.length_set]; exact hI.out.1, fun j h1 h2 => ?_⟩
            by_cases hj : j = s.length - 1 - k
            · rw [hj, nth_set hvk, strs_nth s _ hkk, e1]
            · rw [nth_set_ne hj]
              exact hI.out.2 j (by omega) h2
          clear hst e1 e2
          have hlen1 : (k : Int) < (s.length : Int) := by omega
          go_wp2
          go_roundw
          case rel =>
            refine ⟨k + 1, _, by omega, by go_num, ?_, ho', hbw.setCell (Nat.le_refl _) _, Hi⟩
            rw [← Hst.out, show s.length - 1 - k = s.length - (k + 1) by omega]
          case measure => simp [intOf]; omega
        · go_wp2
          go_ret
          have e : vs = strs s := ext_nth (by rw [hI.out.1, strs_len]) fun j hj => hI.out.2 j (by omega) (by have := hI.out.1; omega)
          subst e
          refine ⟨⟨_, s.length, ?_, .inr ⟨_, rfl, Nat.le_refl _, ho⟩⟩, hbw⟩
          rw [strs_len]
          rfl
  · have e : strideS s = [] := by unfold strideS; rw [if_neg hz]
    rw [e]
    clear e
    have hb : (shapeS s != 0) = true := by simp [hz]
    go_enter Tryd.func10, Tryd.ntmps10
    go_wp2_with fail
    refine (ShapeCheck_any _ _ _ _ h).mono ?_
    rintro e w' ⟨rfl, rfl⟩
    go_wp2_with fail
    go_ret
    exact ⟨⟨none, 0, rfl, .inl rfl⟩, Below.refl _ _⟩
end Go.Proofs.YtfifjokmhhakkaaDoor
