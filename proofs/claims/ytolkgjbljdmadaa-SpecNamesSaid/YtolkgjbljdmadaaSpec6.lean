/- spec.Dimensions; the first number of a list that has a property. No condition beyond what each says. -/
import Derived.Test.YtolkgjbljdmadaaSpec5
namespace Go.Proofs.Ytolkgjbljdmadaa
open Go.RowKit Go.Shelf
set_option linter.unusedVariables false
set_option linter.unusedSimpArgs false

theorem first_of (P : Nat → Prop) (n : Nat) : P n → ∃ m, m ≤ n ∧ P m ∧ ∀ j, j < m → ¬ P j := by
  induction n using Nat.strongRecOn with
  | _ n ih =>
    intro hn
    by_cases h : ∃ j, j < n ∧ P j
    · obtain ⟨j, hj, hp⟩ := h
      obtain ⟨m, h1, h2, h3⟩ := ih j hj hp
      exact ⟨m, by omega, h2, h3⟩
    · exact ⟨n, Nat.le_refl _, hn, fun j hj hp => h ⟨j, hj, hp⟩⟩

theorem mem_nth {xs : List Int} {x : Int} (h : x ∈ xs) : ∃ i, i < xs.length ∧ nth xs i = x := by
  obtain ⟨i, hi, rfl⟩ := List.mem_iff_getElem.1 h
  refine ⟨i, hi, ?_⟩
  have := nth_get? hi
  rw [List.getElem?_eq_getElem hi] at this
  exact (Option.some.inj this).symm

theorem first_any (p : Int → Bool) {xs : List Int} (h : xs.any p = true) : ∃ m, m < xs.length ∧ p (nth xs m) = true ∧ ∀ j, j < m → p (nth xs j) = false := by
  obtain ⟨x, hx, hp⟩ := List.any_eq_true.1 h
  obtain ⟨i, hi, rfl⟩ := mem_nth hx
  obtain ⟨m, h1, h2, h3⟩ := first_of (fun j => p (nth xs j) = true) i hp
  exact ⟨m, by omega, h2, fun j hj => by simpa using h3 j hj⟩

theorem Dim1_any (x : Int) (w : World) : Calls Try.prog 45 #[.int .i64 x] w fun e w' => e = .returned (.bool (neg x)) ∧ w = w' := by
  go_enter Try.func45, Try.ntmps45
  go_wp2
  go_ret
  exact ⟨rfl, rfl⟩

theorem dim_conv (D : Nat) (vs : List Int) : Conv 46 #[] #[] none D (fun _ _ => True) dimS vs :=
  ⟨fun _ _ _ _ _ => trivial, fun k W hk hD _ => (Dimension_any (nth vs k) W).mono fun e w' ⟨he, hw⟩ => ⟨he, fun _ => trivial, hw ▸ Chg.refl _ _⟩⟩

theorem dimS_ok {x : Int} (h0 : neg x = false) (h1 : big x = false) : dimS x = (x, 0) := by
  simp [neg, big] at h0 h1
  unfold dimS
  rw [if_neg (by omega), if_neg (by omega)]
theorem dimS_big {x : Int} (h0 : neg x = false) (h1 : big x = true) : dimS x = (0, 7) := by
  simp [neg, big] at h0 h1
  unfold dimS
  rw [if_neg (by omega), if_pos (by omega)]
theorem any_no {p : Int → Bool} {xs : List Int} (h : xs.any p = false) : ∀ x ∈ xs, p x = false := fun x hx => by
  have := List.any_eq_false.1 h x hx
  simpa using this

set_option maxHeartbeats 1000000 in
theorem Dims_neg (p : Option Addr) (c : Nat) (vs : List Int) (sc : Bool) (w : World) (h : Ints w p vs) (hn : vs.any neg = true) :
    Calls Try.prog 15 #[.agg #[.slice p vs.length c, .bool sc]] w fun e w' =>
      e = .returned (.tuple #[.slice none 0 0, .int .i64 6]) ∧ Below w.heap.size w w' := by
  have H := Lib.hid fun w' hw' => ContainsFunc64_any 45 neg (enters_of Try.func45 (by kernel_rfl) rfl) Dim1_any p c vs w' hw'
  rw [hn] at H
  go_enter Try.func15, Try.ntmps15
  go_wp2_with fail
  refine (H.out _ (h.keep (below_alloc _ _))).mono ?_
  rintro e1 w1 ⟨rfl, rfl⟩
  go_wp2_with fail
  go_ret2
  exact ⟨rfl, below_alloc _ _⟩

set_option maxHeartbeats 1000000 in
theorem Dims_big (p : Option Addr) (c : Nat) (vs : List Int) (sc : Bool) (w : World) (h : Ints w p vs) (hl : vs.length ≤ 1000000) (hn : vs.any neg = false) (hb : vs.any big = true) :
    Calls Try.prog 15 #[.agg #[.slice p vs.length c, .bool sc]] w fun e w' =>
      e = .returned (.tuple #[.slice none 0 0, .int .i64 7]) ∧ Below w.heap.size w w' := by
  have H := Lib.hid fun w' hw' => ContainsFunc64_any 45 neg (enters_of Try.func45 (by kernel_rfl) rfl) Dim1_any p c vs w' hw'
  have hno := any_no hn
  rw [hn] at H
  obtain ⟨m, hm, h1, h2⟩ := first_any big hb
  have HC := Lib.hid fun w' hw' => converted_no 46 #[] #[] none (fun _ _ => True) dimS vs (enters_of Try.func46 (by kernel_rfl) rfl) p c w' hw' hl (dim_conv _ vs) trivial (fun k hk => by cases hk) (.inr fun _ _ _ h => by cases h) m hm (fun j hj => by rw [dimS_ok (hno _ (nth_mem (by omega))) (h2 j hj)]) 7 (by rw [dimS_big (hno _ (nth_mem hm)) h1]) (by decide)
  clear hno h1 h2 hb hn
  go_enter Try.func15, Try.ntmps15
  go_wp2_with fail
  refine (H.out _ (h.keep (below_alloc _ _))).mono ?_
  rintro e1 w1 ⟨rfl, rfl⟩
  go_wp2_with fail
  refine (HC.out _ (h.keep (below_alloc _ _))).mono ?_
  rintro e2 w2 ⟨rfl, hch⟩
  have hb2 := below_1 (hch.below (Nat.le_refl _) (fun k hk => by cases hk))
  go_wp2_with fail
  go_ret2
  exact ⟨rfl, hb2⟩

set_option maxHeartbeats 1000000 in
theorem Dims_err (p : Option Addr) (c : Nat) (vs : List Int) (sc : Bool) (w : World) (h : Ints w p vs) (hl : vs.length ≤ 1000000) (hn : vs.any neg = false) (hb : vs.any big = false) (e : Int) (he : shapeS vs = e) (he0 : e ≠ 0) :
    Calls Try.prog 15 #[.agg #[.slice p vs.length c, .bool sc]] w fun e' w' =>
      e' = .returned (.tuple #[.slice none 0 0, .int .i64 e]) ∧ Below w.heap.size w w' := by
  have H := Lib.hid fun w' hw' => ContainsFunc64_any 45 neg (enters_of Try.func45 (by kernel_rfl) rfl) Dim1_any p c vs w' hw'
  have hno := any_no hn
  have hnb := any_no hb
  rw [hn] at H
  have hmap : (vs.map fun x => (dimS x).1) = vs := by
    have : ∀ x ∈ vs, (fun x => (dimS x).1) x = id x := fun x hx => by simp [dimS_ok (hno x hx) (hnb x hx)]
    rw [List.map_congr_left this, List.map_id]
  have HC := Lib.hid fun w' hw' => converted_yes 46 #[] #[] none (fun _ _ => True) dimS vs (enters_of Try.func46 (by kernel_rfl) rfl) p c w' hw' hl (dim_conv _ vs) trivial (fun k hk => by cases hk) (.inr fun _ _ _ h => by cases h) (fun x hx => by rw [dimS_ok (hno x hx) (hnb x hx)])
  rw [hmap] at HC
  have Hs := Lib.hid fun q c w hw => ShapeCheck_any q c vs w hw
  rw [he] at Hs
  have heb : (e != 0) = true := by simp [he0]
  have Hi := Lib.hid h.i64
  clear hno hnb hb hn hmap he he0
  go_enter Try.func15, Try.ntmps15
  go_wp2_with fail
  refine (H.out _ (h.keep (below_alloc _ _))).mono ?_
  rintro e1 w1 ⟨rfl, rfl⟩
  go_wp2_with fail
  refine (HC.out _ (h.keep (below_alloc _ _))).mono ?_
  rintro e2 w2 ⟨⟨q, cq, rfl, hnew, -⟩, hch⟩
  have hb2 := below_1 (hch.below (Nat.le_refl _) (fun k hk => by cases hk))
  have hq := hnew.ints Hi.out h.small
  go_wp2_with fail
  refine (Hs.out _ _ _ hq).mono ?_
  rintro e3 w3 ⟨rfl, rfl⟩
  go_wp2_with fail
  go_ret2
  exact ⟨rfl, hb2⟩

set_option maxHeartbeats 1000000 in
theorem Dims_yes (p : Option Addr) (c : Nat) (vs : List Int) (sc : Bool) (w : World) (h : Ints w p vs) (hl : vs.length ≤ 1000000) (he : shapeS vs = 0) :
    Calls Try.prog 15 #[.agg #[.slice p vs.length c, .bool sc]] w fun e' w' =>
      (∃ q c', e' = .returned (.tuple #[.slice q vs.length c', .int .i64 0]) ∧ Ints w' q vs) ∧ Below w.heap.size w w' := by
  have hn : vs.any neg = false := by
    cases hx : vs.any neg with
    | false => rfl
    | true => rw [shapeS_neg hx] at he; cases he
  have hb : vs.any big = false := by
    cases hx : vs.any big with
    | false => rfl
    | true => rw [shapeS_big hn hx] at he; cases he
  have H := Lib.hid fun w' hw' => ContainsFunc64_any 45 neg (enters_of Try.func45 (by kernel_rfl) rfl) Dim1_any p c vs w' hw'
  have hno := any_no hn
  have hnb := any_no hb
  rw [hn] at H
  have hmap : (vs.map fun x => (dimS x).1) = vs := by
    have : ∀ x ∈ vs, (fun x => (dimS x).1) x = id x := fun x hx => by simp [dimS_ok (hno x hx) (hnb x hx)]
    rw [List.map_congr_left this, List.map_id]
  have HC := Lib.hid fun w' hw' => converted_yes 46 #[] #[] none (fun _ _ => True) dimS vs (enters_of Try.func46 (by kernel_rfl) rfl) p c w' hw' hl (dim_conv _ vs) trivial (fun k hk => by cases hk) (.inr fun _ _ _ h => by cases h) (fun x hx => by rw [dimS_ok (hno x hx) (hnb x hx)])
  rw [hmap] at HC
  have Hs := Lib.hid fun q c w hw => ShapeCheck_any q c vs w hw
  rw [he] at Hs
  have Hi := Lib.hid h.i64
  clear hno hnb hb hn hmap he
  go_enter Try.func15, Try.ntmps15
  go_wp2_with fail
  refine (H.out _ (h.keep (below_alloc _ _))).mono ?_
  rintro e1 w1 ⟨rfl, rfl⟩
  go_wp2_with fail
  refine (HC.out _ (h.keep (below_alloc _ _))).mono ?_
  rintro e2 w2 ⟨⟨q, cq, rfl, hnew, -⟩, hch⟩
  have hb2 := below_1 (hch.below (Nat.le_refl _) (fun k hk => by cases hk))
  have hq := hnew.ints Hi.out h.small
  go_wp2_with fail
  refine (Hs.out _ _ _ hq).mono ?_
  rintro e3 w3 ⟨rfl, rfl⟩
  go_wp2_with fail
  go_ret2
  exact ⟨⟨q, cq, rfl, hq⟩, hb2⟩
end Go.Proofs.Ytolkgjbljdmadaa
