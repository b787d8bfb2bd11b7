/- spec.Permutation where all numbers are axes. No condition beyond what each says. -/
import Derived.Test.YtolkgjbljdmadaaSpec4
namespace Go.Proofs.Ytolkgjbljdmadaa
open Go.RowKit Go.Shelf
set_option linter.unusedVariables false
set_option linter.unusedSimpArgs false

theorem wrap64_ok {x : Int} (h1 : -9223372036854775808 ≤ x) (h2 : x ≤ 9223372036854775807) : wrap64 x = x := by unfold wrap64; omega
theorem axis_in {r x : Int} (h : 0 ≤ x ∧ x < r) : axisS r x = (x, 0) := axisS_yes (by omega) (by omega)
theorem axis_map (vs : List Int) (r : Int) (h : ∀ x ∈ vs, 0 ≤ x ∧ x < r) : (vs.map fun x => (axisS r x).1) = vs := by
  have : ∀ x ∈ vs, (fun x => (axisS r x).1) x = id x := fun x hx => by simp [axis_in (h x hx)]
  rw [List.map_congr_left this, List.map_id]


set_option maxHeartbeats 1000000 in
theorem Perm_yes (p : Option Addr) (c : Nat) (vs : List Int) (sc : Bool) (w : World) (h : Ints w p vs) (hl : vs.length ≤ 1000000) (hall : ∀ x ∈ vs, 0 ≤ x ∧ x < (vs.length : Int)) (hd : vs = [] ∨ ((dist vs).length : Int) = most vs + 1) :
    Calls Try.prog 12 #[.agg #[.slice p vs.length c, .bool sc], .int .i64 vs.length] w fun e w' =>
      (∃ q c', e = .returned (.tuple #[.slice q vs.length c', .int .i64 0]) ∧ Ints w' q vs) ∧ Below w.heap.size w w' := by
  have hmm := @run_makeMap Try.prog
  have Hall := Lib.hid hall
  have hi := h.i64
  have Hi := Lib.hid hi
  clear hall hi
  go_enter Try.func12, Try.ntmps12
  go_wp2_with fail
  refine (Exactly_yes p c vs sc _ (h.keep (below_t (below_alloc _ _) (below_alloc _ _))) hl).mono ?_
  rintro e1 w1 ⟨⟨q, cq, rfl, hnew⟩, hb1⟩
  have hlt1 : w.heap.size + 1 < w1.heap.size := by have := hb1.size; simp at this; omega
  have hR1 : w1.cell? ⟨w.heap.size + 1, 0, none⟩ = some (.int .i64 vs.length) := by
    rw [hb1.cell (p := ⟨w.heap.size + 1, 0, none⟩) (by simp)]
    simp [go_sem]
  have hq := hnew.ints Hi.out h.small
  have hb := below_2 hb1
  obtain ⟨W, hW⟩ : ∃ W, (w1.alloc (.map #[] 0)).alloc (.cells #[.map (some w1.heap.size)] 80) = W := ⟨_, rfl⟩
  obtain ⟨hI, hbW, hWs⟩ := perm_start vs _ w w1 W hW hR1 hlt1 hb
  have HW := Lib.hid hW
  have HI := Lib.hid hI
  have Hq : Hid (Ints W q vs ∧ (vs = [] ∨ ∀ x y, q = some ⟨x, y, none⟩ → ¬ some x = some w1.heap.size)) := by
    refine ⟨hq.keep hbW, ?_⟩
    rcases hq.cells with h' | ⟨b, off, hp, hlt, -⟩
    · exact .inl (by simpa using h')
    · refine .inr fun x y hxy hx => ?_
      rw [hp] at hxy
      cases hxy
      cases hx
      omega
  clear hW hI hnew hq hb1
  go_wp2_with fail
  rw [HW.out]
  refine (converted_yes 42 #[] _ (some w1.heap.size) (Seen (w.heap.size + 1) (w1.heap.size + 1) w1.heap.size vs.length vs) (axisS vs.length) vs (enters_of Try.func42 (by kernel_rfl) rfl) q cq W Hq.out.1 hl (perm_conv _ _ _ _ _ vs Hi.out hl (by omega) (by omega) (by omega) (by omega) (by omega)) HI.out (fun k hk => by cases hk; omega) Hq.out.2 (fun x hx => by rw [axis_in (Hall.out x hx)])).mono ?_
  rintro e2 w2 ⟨⟨q2, c2, rfl, hnew2, hS⟩, hch⟩
  have hb2 := hb.trans ((hbW.trans (hch.below (B := w1.heap.size) (by omega) (fun k hk => by cases hk; omega))).mono (by omega))
  rw [axis_map vs vs.length Hall.out] at hnew2
  have hi2 := hnew2.ints Hi.out h.small
  have hgR := hS.rank
  have hgS := hS.seen
  have hmp := hS.map
  rw [List.take_length] at hmp
  have hlen := hmp.len Try.underlying80
  rw [seenD_size] at hlen
  have hz0 := dist_le vs
  rcases Nat.eq_zero_or_pos vs.length with hv0 | hvp
  · have hdv : decide (0 < (vs.length : Int)) = false := decide_eq_false (by omega)
    have hdv' : ¬ (0 < (vs.length : Int)) := by omega
    clear hd hlen hmp hS HI HW
    go_wp2_with fail
    go_ret2
    exact ⟨⟨q2, c2, by rw [hv0]; rfl, hi2⟩, hb2⟩
  · have hdv : decide (0 < (vs.length : Int)) = true := decide_eq_true (by omega)
    have hdv' : 0 < (vs.length : Int) := by omega
    obtain ⟨z, hz⟩ : ∃ z, (dist vs).length = z := ⟨_, rfl⟩
    obtain ⟨m, hm⟩ : ∃ m, most vs = m := ⟨_, rfl⟩
    have hzm : (z : Int) = m + 1 := by
      rcases hd with hd | hd
      · subst hd; simp at hvp
      · rw [hz, hm] at hd; exact hd
    rw [hz] at hlen hz0
    have hnz : ((z : Int) != m + 1) = false := by simp [hzm]
    have Hmx := Lib.hid (Max_any q2 c2 vs w2 hi2 (fun x hx => (Hall.out x hx).1) hvp)
    rw [hm] at Hmx
    have hmb : -1 ≤ m ∧ m ≤ 1000000 := by omega
    have hmw : wrap64 (m + 1) = m + 1 := wrap64_ok (by omega) (by omega)
    clear hd hz hm hmp hS HI HW hzm
    go_wp2_with fail
    refine (Hmx.out).mono ?_
    rintro e3 w3 ⟨rfl, rfl⟩
    go_wp2_with fail
    go_ret2
    exact ⟨⟨q2, c2, rfl, hi2⟩, hb2⟩

set_option maxHeartbeats 1000000 in
theorem Perm_gap (p : Option Addr) (c : Nat) (vs : List Int) (sc : Bool) (w : World) (h : Ints w p vs) (hl : vs.length ≤ 1000000) (hall : ∀ x ∈ vs, 0 ≤ x ∧ x < (vs.length : Int)) (hvp : 0 < vs.length) (hd : ((dist vs).length : Int) ≠ most vs + 1) :
    Calls Try.prog 12 #[.agg #[.slice p vs.length c, .bool sc], .int .i64 vs.length] w fun e w' =>
      e = .returned (.tuple #[.slice none 0 0, .int .i64 6]) ∧ Below w.heap.size w w' := by
  have hmm := @run_makeMap Try.prog
  have Hall := Lib.hid hall
  have hi := h.i64
  have Hi := Lib.hid hi
  clear hall hi
  go_enter Try.func12, Try.ntmps12
  go_wp2_with fail
  refine (Exactly_yes p c vs sc _ (h.keep (below_t (below_alloc _ _) (below_alloc _ _))) hl).mono ?_
  rintro e1 w1 ⟨⟨q, cq, rfl, hnew⟩, hb1⟩
  have hlt1 : w.heap.size + 1 < w1.heap.size := by have := hb1.size; simp at this; omega
  have hR1 : w1.cell? ⟨w.heap.size + 1, 0, none⟩ = some (.int .i64 vs.length) := by
    rw [hb1.cell (p := ⟨w.heap.size + 1, 0, none⟩) (by simp)]
    simp [go_sem]
  have hq := hnew.ints Hi.out h.small
  have hb := below_2 hb1
  obtain ⟨W, hW⟩ : ∃ W, (w1.alloc (.map #[] 0)).alloc (.cells #[.map (some w1.heap.size)] 80) = W := ⟨_, rfl⟩
  obtain ⟨hI, hbW, hWs⟩ := perm_start vs _ w w1 W hW hR1 hlt1 hb
  have HW := Lib.hid hW
  have HI := Lib.hid hI
  have Hq : Hid (Ints W q vs ∧ (vs = [] ∨ ∀ x y, q = some ⟨x, y, none⟩ → ¬ some x = some w1.heap.size)) := by
    refine ⟨hq.keep hbW, ?_⟩
    rcases hq.cells with h' | ⟨b, off, hp, hlt, -⟩
    · exact .inl (by simpa using h')
    · refine .inr fun x y hxy hx => ?_
      rw [hp] at hxy
      cases hxy
      cases hx
      omega
  clear hW hI hnew hq hb1
  go_wp2_with fail
  rw [HW.out]
  refine (converted_yes 42 #[] _ (some w1.heap.size) (Seen (w.heap.size + 1) (w1.heap.size + 1) w1.heap.size vs.length vs) (axisS vs.length) vs (enters_of Try.func42 (by kernel_rfl) rfl) q cq W Hq.out.1 hl (perm_conv _ _ _ _ _ vs Hi.out hl (by omega) (by omega) (by omega) (by omega) (by omega)) HI.out (fun k hk => by cases hk; omega) Hq.out.2 (fun x hx => by rw [axis_in (Hall.out x hx)])).mono ?_
  rintro e2 w2 ⟨⟨q2, c2, rfl, hnew2, hS⟩, hch⟩
  have hb2 := hb.trans ((hbW.trans (hch.below (B := w1.heap.size) (by omega) (fun k hk => by cases hk; omega))).mono (by omega))
  rw [axis_map vs vs.length Hall.out] at hnew2
  have hi2 := hnew2.ints Hi.out h.small
  have hgR := hS.rank
  have hgS := hS.seen
  have hmp := hS.map
  rw [List.take_length] at hmp
  have hlen := hmp.len Try.underlying80
  rw [seenD_size] at hlen
  have hdv : decide (0 < (vs.length : Int)) = true := decide_eq_true (by omega)
  have hdv' : 0 < (vs.length : Int) := by omega
  obtain ⟨z, hz⟩ : ∃ z, (dist vs).length = z := ⟨_, rfl⟩
  obtain ⟨m, hm⟩ : ∃ m, most vs = m := ⟨_, rfl⟩
  have hmv := most_fold vs (-1)
  have hmb : -1 ≤ m ∧ m ≤ 1000000 := by
    refine ⟨hm ▸ hmv.1, ?_⟩
    rcases hmv.2.2 with e | e
    · have : most vs = -1 := e
      omega
    · have := (Hall.out _ e).2
      have e2 : most vs < (vs.length : Int) := this
      omega
  rw [hz, hm] at hd
  rw [hz] at hlen
  have hnz : ((z : Int) != m + 1) = true := by simp [hd]
  have Hmx := Lib.hid (Max_any q2 c2 vs w2 hi2 (fun x hx => (Hall.out x hx).1) hvp)
  rw [hm] at Hmx
  have hmw : wrap64 (m + 1) = m + 1 := wrap64_ok (by omega) (by omega)
  clear hz hm hmp hS HI HW hd hmv
  go_wp2_with fail
  refine (Hmx.out).mono ?_
  rintro e3 w3 ⟨rfl, rfl⟩
  go_wp2_with fail
  go_ret2
  exact ⟨rfl, hb2⟩

end Go.Proofs.Ytolkgjbljdmadaa
