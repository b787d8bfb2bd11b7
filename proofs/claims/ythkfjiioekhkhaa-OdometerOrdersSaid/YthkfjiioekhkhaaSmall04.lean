/- Small shapes and the offsets of their indices. No condition beyond what each says. -/
import Derived.Test.YthkfjiioekhkhaaLaw04s
import Derived.Test.YthkfjiioekhkhaaRef03
namespace Go.Proofs.Ythkfjiioekhkhaa
open Go.RowKit Go.Shelf
set_option linter.unusedVariables false
set_option linter.unusedSimpArgs false

/-- the walk over the dimensions: each counts as one at least -/
def smallL : List Int → Int → Bool
  | [], _ => true
  | x :: xs, n => if 30000 < n * max x 1 then false else smallL xs (n * max x 1)
def smallS (s : List Int) : Bool := decide (s.length ≤ 6) && (shapeS s == 0) && decide (cellsS s ≤ 300) && smallL s 1
theorem smallL_no {xs : List Int} {k : Nat} {q m : Int} (h : k < xs.length) (hm : q * max (nth xs k) 1 = m) (hx : 30000 < m) : smallL (xs.drop k) q = false := by
  rw [drop_nth h]
  unfold smallL
  rw [hm, if_pos hx]
theorem smallL_yes {xs : List Int} {k : Nat} {q m : Int} (h : k < xs.length) (hm : q * max (nth xs k) 1 = m) (hx : ¬ 30000 < m) : smallL (xs.drop k) q = smallL (xs.drop (k + 1)) m := by
  rw [drop_nth h]
  rw [smallL, hm, if_neg hx]
set_option maxHeartbeats 800000 in
theorem RefSmall2_any (p : Option Addr) (c : Nat) (s : List Int) (w : World) (h : Ints w p s) :
    Calls Try.prog 20 #[.slice p s.length c, .int .i64 300] w fun e w' => e = .returned (.bool (smallS s)) ∧ w = w' := by
  have hn := h.small
  by_cases hl : 6 < s.length
  · have H : Hid (smallS s = false) := by unfold smallS; rw [decide_eq_false (show ¬ s.length ≤ 6 by omega)]; rfl
    go_enter Try.func20, Try.ntmps20
    go_wp2_with fail
    all_goals first | (exfalso; omega) | skip
    go_wp2_with fail
    go_ret
    exact ⟨ret_bool H.out.symm, rfl⟩
  · have hle : s.length ≤ 6 := by omega
    by_cases hz : shapeS s = 0
    · have Hz := Lib.hid hz
      obtain ⟨n, hnn⟩ : ∃ n, cellsS s = n := ⟨_, rfl⟩
      have Hn := Lib.hid hnn
      have hnb := hnn ▸ cellsS_bd s
      by_cases h3 : 300 < n
      · have H := Lib.hid (show smallS s = false by unfold smallS; rw [hnn, decide_eq_false (show ¬ n ≤ 300 by omega)]; simp)
        clear hz hnn
        go_enter Try.func20, Try.ntmps20
        go_wp2_with fail
        all_goals first | (exfalso; omega) | skip
        refine (RefCheck_is s 0 Hz.out _ _ _ h).mono ?_
        rintro e w' ⟨rfl, rfl⟩
        go_wp2_with fail
        refine (RefCells_is s n Hn.out _ _ _ h).mono ?_
        rintro e w' ⟨rfl, rfl⟩
        go_wp2_with fail
        go_ret
        exact ⟨ret_bool H.out.symm, rfl⟩
      · have H : Hid (smallS s = smallL s 1) := by unfold smallS; rw [hnn, hz, decide_eq_true hle, decide_eq_true (show n ≤ 300 by omega)]; rfl
        have hd := (shapeS_zero.1 hz).dims
        have Hd := Lib.hid hd
        clear hz hnn hd
        go_enter Try.func20, Try.ntmps20
        go_wp2_with fail
        all_goals first | (exfalso; omega) | skip
        refine (RefCheck_is s 0 Hz.out _ _ _ h).mono ?_
        rintro e w' ⟨rfl, rfl⟩
        go_wp2_with fail
        refine (RefCells_is s n Hn.out _ _ _ h).mono ?_
        rintro e w' ⟨rfl, rfl⟩
        go_wp2_with fail
        go_loop [5, 6] (fun m i => ∃ (k : Nat) (q : Int), k ≤ s.length ∧ i = .int .i64 k ∧ m = .int .i64 q ∧ 0 < q ∧ q ≤ 30000 ∧ Hid (smallL s 1 = smallL (s.drop k) q)) (fun _ i => s.length - (intOf i).toNat)
        case atStart => exact ⟨0, 1, Nat.zero_le _, rfl, rfl, by omega, by omega, by simp [Hid]⟩
        case round =>
          obtain ⟨k, q, hk, rfl, rfl, hq1, hq2, hI⟩ := hrel
          by_cases hlt : k < s.length
          · obtain ⟨b, off, rfl, -, hc⟩ := h.at hlt
            obtain ⟨hx1, hx2⟩ := Hd.out _ (nth_mem hlt)
            by_cases hx0 : nth s k < 1
            · have hn1 := Lib.hid (hI.out.trans (smallL_yes (m := q) hlt (by rw [Int.max_eq_right (by omega), Int.mul_one]) (by omega)))
              go_wp2
              all_goals first | (exfalso; omega) | skip
              go_round
              case rel => exact ⟨k + 1, q, by omega, by go_num, rfl, hq1, by omega, hn1.out⟩
              case measure => simp [intOf]; omega
            · have hm1 : 0 < q * nth s k := Int.mul_pos hq1 (by omega)
              have hm2 : q * nth s k ≤ 30000 * 65536 := Int.mul_le_mul hq2 hx2 (by omega) (by omega)
              have hmx : q * max (nth s k) 1 = q * nth s k := by rw [Int.max_eq_left (by omega)]
              by_cases hx : 30000 < q * nth s k
              · have H2 := Lib.hid (H.out.trans (hI.out.trans (smallL_no hlt hmx hx)))
                clear hmx
                go_wp2
                all_goals first | (exfalso; omega) | skip
                go_ret
                exact ⟨ret_bool H2.out.symm, rfl⟩
              · have hn1 := Lib.hid (hI.out.trans (smallL_yes hlt hmx hx))
                clear hmx
                go_wp2
                all_goals first | (exfalso; omega) | skip
                go_round
                case rel => exact ⟨k + 1, _, by omega, by go_num, rfl, hm1, by omega, hn1.out⟩
                case measure => simp [intOf]; omega
          · have H2 := Lib.hid (H.out.trans (hI.out.trans (by rw [List.drop_eq_nil_of_le (by omega)]; rfl) : smallL s 1 = true))
            go_wp2
            go_ret
            exact ⟨ret_bool H2.out.symm, rfl⟩
    · obtain ⟨z, hzz⟩ : ∃ z, shapeS s = z := ⟨_, rfl⟩
      rw [hzz] at hz
      have Hz := Lib.hid hzz
      have H := Lib.hid (show smallS s = false by unfold smallS; rw [hzz, show (z == 0) = false by simp [hz]]; simp)
      have hzb : (z != 0) = true := by simp [hz]
      clear hzz
      go_enter Try.func20, Try.ntmps20
      go_wp2_with fail
      all_goals first | (exfalso; omega) | skip
      refine (RefCheck_is s z Hz.out _ _ _ h).mono ?_
      rintro e w' ⟨rfl, rfl⟩
      go_wp2_with fail
      go_ret
      exact ⟨ret_bool H.out.symm, rfl⟩
theorem RefSmall2_is (s : List Int) (b : Bool) (hb : smallS s = b) (p : Option Addr) (c : Nat) (w : World) (h : Ints w p s) :
    Calls Try.prog 20 #[.slice p s.length c, .int .i64 300] w fun e w' => e = .returned (.bool b) ∧ w = w' := hb ▸ RefSmall2_any p c s w h
theorem RefOffset_is (s ix : List Int) (n : Int) (hn : roffS s ix = n) (hs : Shape s) (p q : Option Addr) (c d : Nat) (w : World) (h : Ints w p s) (h' : Ints w q ix) :
    Calls Try.prog 22 #[.slice p s.length c, .slice q ix.length d] w fun e w' => e = .returned (.int .i64 n) ∧ Below w.heap.size w w' :=
  (RefOffset_any p q c d s ix w h h' hs).mono fun e w' ⟨he, n, hw⟩ => ⟨by rw [he, hn], hw ▸ below_drewN _ _ _⟩
/-- an index of a shape, from its number -/
theorem all_off : ∀ (s : List Int) (out : List (List Int)) (k : Nat) (a : List Int), (∀ x ∈ s, 0 ≤ x) → (s.foldl stepA out)[k]? = some a →
    0 < pN s ∧ ∃ r b, out[k / pN s]? = some r ∧ a = r ++ b ∧ Valid s b ∧ dotS (strs s) b = ((k % pN s : Nat) : Int) ∧ prod s = (pN s : Int)
  | [], out, k, a, _, h => ⟨by simp [pN], a, [], by simpa [pN] using h, by simp, valid_nil, by simp [pN, dotS, Nat.mod_one], rfl⟩
  | x :: s, out, k, a, hp, h => by
    obtain ⟨h0, r', b, hr', rfl, hv, hd, hpr⟩ := all_off s (stepA out x) k a (fun y hy => hp y (List.mem_cons_of_mem _ hy)) h
    have hX : 0 < x.toNat := by
      rcases Nat.eq_zero_or_pos x.toNat with hx | hx
      · have hl := (List.getElem?_eq_some_iff.1 hr').1
        rw [stepA_len, hx, Nat.mul_zero] at hl
        exact absurd hl (Nat.not_lt_zero _)
      · exact hx
    rw [stepA_get hX] at hr'
    cases hq : out[k / pN s / x.toNat]? with
    | none => rw [hq] at hr'; cases hr'
    | some r =>
      rw [hq] at hr'
      obtain rfl := Option.some.inj hr'
      have hx0 := hp x (List.mem_cons_self ..)
      have hxt : ((x.toNat : Nat) : Int) = x := Int.toNat_of_nonneg hx0
      have hm := Nat.mod_lt (k / pN s) hX
      refine ⟨Nat.mul_pos hX h0, r, ((k / pN s % x.toNat : Nat) : Int) :: b, ?_, by simp, valid_cons.2 ⟨⟨Int.natCast_nonneg _, by rw [← hxt]; exact Int.ofNat_lt.2 hm⟩, hv⟩, ?_, ?_⟩
      · show out[k / (x.toNat * pN s)]? = some r
        rw [Nat.mul_comm, ← Nat.div_div_eq_div_mul]
        exact hq
      · show prod s * ((k / pN s % x.toNat : Nat) : Int) + dotS (strs s) b = ((k % (x.toNat * pN s) : Nat) : Int)
        rw [hd, hpr, Nat.mul_comm x.toNat, Nat.mod_mul, Int.natCast_add, Int.natCast_mul, Int.add_comm]
      · rw [prod_cons, hpr, pN, Int.natCast_mul, hxt]
theorem zeros_len (n : Nat) : (zeros n).length = n := List.length_replicate ..
theorem zeros_nth {n k : Nat} (hk : k < n) : nth (zeros n) k = 0 := by
  unfold zeros nth
  rw [List.getD_eq_getElem?_getD, List.getElem?_replicate, if_pos hk]
  rfl
theorem dims_zeros {s : List Int} (hp : ∀ x ∈ s, 0 ≤ x) : dimsX (zeros s.length) s = s := by
  have e : (dimsX (zeros s.length) s).length = s.length := by rw [dims_len (by rw [zeros_len]; exact Nat.le_refl _), zeros_len]
  refine nth_ext e fun j hj => ?_
  rw [e] at hj
  rw [dims_nth (by rw [zeros_len]; exact Nat.le_refl _) (by rw [zeros_len]; exact hj), zeros_nth hj]
  have := hp _ (nth_mem hj)
  unfold dmI
  rw [if_neg (by omega)]
  omega
theorem bet_zeros {s : List Int} (hp : ∀ x ∈ s, 0 ≤ x) : betX (zeros s.length) s = allX s := by
  unfold betX
  rw [dims_zeros hp]
  conv => rhs; rw [← List.map_id (allX s)]
  refine List.map_congr_left fun r hr => ?_
  have hl := (allX_mem.1 hr).1
  refine nth_ext (by rw [addX_len (by rw [zeros_len]; exact hl), zeros_len]; exact hl.symm) fun j hj => ?_
  · rw [addX_len (by rw [zeros_len]; exact hl), zeros_len] at hj
    rw [addX_nth (by rw [zeros_len]; exact hl) (by rw [zeros_len]; exact hj), zeros_nth hj, Int.add_zero]
    rfl
/-- the offset of the index that comes k-th is k -/
theorem off_of {s : List Int} (hp : ∀ x ∈ s, 0 ≤ x) {k : Nat} {a : List Int} (h : (betX (zeros s.length) s)[k]? = some a) : roffS s a = (k : Int) := by
  rw [bet_zeros hp] at h
  obtain ⟨h0, r, b, hr, rfl, hv, hd, -⟩ := all_off s [[]] k a hp h
  have hq : k / pN s = 0 := by
    have := (List.getElem?_eq_some_iff.1 hr).1
    simpa using this
  rw [hq] at hr
  obtain rfl : ([] : List Int) = r := by simpa using hr
  rw [List.nil_append]
  unfold roffS
  rw [if_pos hv, hd]
  have e := Nat.div_add_mod k (pN s)
  rw [hq, Nat.mul_zero, Nat.zero_add] at e
  rw [e]
theorem pN_zero : ∀ {s : List Int}, (0 : Int) ∈ s → pN s = 0
  | x :: s, h => by
    rcases List.mem_cons.1 h with h | h
    · rw [pN, ← h]; simp
    · rw [pN, pN_zero h, Nat.mul_zero]
theorem pN_prod : ∀ {s : List Int}, (∀ x ∈ s, 0 ≤ x) → prod s = (pN s : Int)
  | [], _ => rfl
  | x :: s, h => by
    rw [prod_cons, pN_prod fun y hy => h y (List.mem_cons_of_mem _ hy), pN, Int.natCast_mul, Int.toNat_of_nonneg (h x (List.mem_cons_self ..))]
theorem cells_pN {s : List Int} (h : Shape s) : cellsS s = (pN s : Int) := by
  by_cases hc : cellsS s = 0
  · have h0 : (0 : Int) ∈ s := Classical.byContradiction fun hn => by
      have := (h.cells.2.2 hn).2.1
      omega
    rw [hc, pN_zero h0]
    rfl
  · rw [← (h.pos hc).2.1]
    exact pN_prod fun x hx => (h.dims x hx).1
theorem ok_zeros {s : List Int} (h : Shape s) (h64 : ∀ x ∈ s, I64 x) : OdoOk (zeros s.length) s := by
  refine ⟨zeros_len _, by rw [zeros_len]; have := h.len; omega, fun x hx => ?_, h64, fun hf => ?_⟩
  · unfold zeros at hx
    rw [(List.mem_replicate.1 hx).2]
    unfold I64
    omega
  · have e := allX_full (lo := zeros s.length) (hi := s) (by rw [zeros_len]; exact Nat.le_refl _) hf (zeros s.length).length (Nat.le_refl _)
    have hp : ∀ x ∈ s, 0 ≤ x := fun x hx => (h.dims x hx).1
    rw [zeros_len, dims_zeros hp, List.take_length] at e
    rw [zeros_len, ← e, allX, foldA_len, List.length_singleton, Nat.one_mul, ← cells_pN h]
    have := cellsS_bd s
    omega
theorem len_zeros {s : List Int} (h : Shape s) : ((betX (zeros s.length) s).length : Int) = cellsS s := by
  rw [bet_pN, dims_zeros fun x hx => (h.dims x hx).1, cells_pN h]

end Go.Proofs.Ythkfjiioekhkhaa
