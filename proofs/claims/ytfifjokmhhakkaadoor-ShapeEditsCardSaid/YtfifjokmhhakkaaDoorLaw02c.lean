/- ShapeEdits, walked: where the axis is none of the list's. No condition beyond what each says. -/
import Derived.Test.YtfifjokmhhakkaaDoorLaw02
import Derived.Test.YtfifjokmhhakkaaDoorEdit4
namespace Go.Proofs.YtfifjokmhhakkaaDoor
open Go.RowKit Go.Shelf
set_option linter.unusedVariables false
set_option linter.unusedSimpArgs false

set_option maxRecDepth 100000 in
set_option maxHeartbeats 4000000 in
theorem Edits_out (p : Option Addr) (c : Nat) (s : List Int) (ax x : Int) (w : World) (h : Ints w p s) (hax : I64 ax) (hx : I64 x) (hout : ax < 0 ∨ (s.length : Int) < ax) :
    Calls Tryd.prog 6 #[.slice p s.length c, .int .i64 ax, .int .i64 x] w fun e w' => e = .returned (.bool true) ∧ Below w.heap.size w w' := by
  have hsm := h.small
  have hax' := hax
  unfold I64 at hax'
  go_enter Tryd.func6, Tryd.ntmps6
  go_wp2_with fail
  refine (awake02 w).mono ?_
  rintro e1 w1 ⟨rfl, hb⟩
  have h1 := h.keep hb
  by_cases k1 : (300 : Int) < (s.length : Int)
  · have d1 : decide ((300 : Int) < (s.length : Int)) = true := decide_eq_true k1
    go_wp2_with fail
    refine (awake02 w1).mono ?_
    rintro e2 w2 ⟨rfl, hb2⟩
    go_wp2_with fail
    go_ret
    exact ⟨rfl, below_t hb hb2⟩
  have d1 : decide ((300 : Int) < (s.length : Int)) = false := decide_eq_false k1
  have hl3 : s.length ≤ 300 := by omega
  go_wp2_with (at_builtin; refine append_ints rfl (.tmp 23) (.tmp 24) rfl w1.heap.size _ 0 [] rfl (World.ownsRow_lit w1 #[] 0 (Nat.le_refl _) (by decide) rfl) p c s rfl (h1.keep (below_alloc w1 (.cells #[] 3))).1 (by omega) (by simp) ?_; intro v2 w2 o2 g2; rw [Nat.zero_add, List.nil_append] at o2; have hb2 := below_append' (below_alloc w1 _) (World.ownsRow_lit w1 #[] 0 (Nat.le_refl _) (by decide) rfl) g2; obtain ⟨q2, c2, rfl, n2, bd2⟩ := row_full o2; rw [List.length_map] at bd2; simp only [List.length_map])
  have i2 := n2.ints h.i64 hsm
  have h2 := h1.keep hb2
  have hb := below_t hb hb2
  clear n2 o2 g2 hb2
  refine (Replace_no q2 c2 s.length ax (by omega) (by omega) hax x w2).mono ?_
  rintro e3 w3 ⟨rfl, hb3⟩
  have i3 := i2.keep hb3
  have h3 := h2.keep hb3
  have hb := below_t hb hb3
  go_wp2_with fail
  refine (Insert_no q2 c2 s.length ax (by omega) hout x w3).mono ?_
  rintro e4 w4 ⟨rfl, hb4⟩
  have i4 := i3.keep hb4
  have h4 := h3.keep hb4
  have hb := below_t hb hb4
  go_wp2_with fail
  refine (Remove_no q2 c2 s.length ax (by omega) (by omega) hax w4).mono ?_
  rintro e5 w5 ⟨rfl, rfl⟩
  go_wp2_with fail
  refine (refEq_true s s.length s.length rfl rfl _ _ _ _ _ i4 h4).mono ?_
  rintro e6 w6 ⟨rfl, hb6⟩
  have hb := below_t hb hb6
  by_cases k2 : ax < 0
  · have d2 : decide (ax < 0) = true := decide_eq_true k2
    go_wp2_with fail
    go_ret
    exact ⟨rfl, hb⟩
  · have d2 : decide (ax < 0) = false := decide_eq_false k2
    have d3 : decide ((s.length : Int) < ax) = true := decide_eq_true (by omega)
    go_wp2_with fail
    go_ret
    exact ⟨rfl, hb⟩

set_option maxRecDepth 100000 in
set_option maxHeartbeats 4000000 in
theorem Edits_end (p : Option Addr) (c : Nat) (s : List Int) (ax x : Int) (w : World) (h : Ints w p s) (hax : I64 ax) (hx : I64 x) (k : Nat) (hk : ax = (k : Int)) (hks : k = s.length) :
    Calls Tryd.prog 6 #[.slice p s.length c, .int .i64 ax, .int .i64 x] w fun e w' => e = .returned (.bool true) ∧ Below w.heap.size w w' := by
  have hsm := h.small
  subst hk
  subst hks
  have hax' := hax
  unfold I64 at hax'
  go_enter Tryd.func6, Tryd.ntmps6
  go_wp2_with fail
  refine (awake02 w).mono ?_
  rintro e1 w1 ⟨rfl, hb⟩
  have h1 := h.keep hb
  by_cases k1 : (300 : Int) < (s.length : Int)
  · have d1 : decide ((300 : Int) < (s.length : Int)) = true := decide_eq_true k1
    go_wp2_with fail
    refine (awake02 w1).mono ?_
    rintro e2 w2 ⟨rfl, hb2⟩
    go_wp2_with fail
    go_ret
    exact ⟨rfl, below_t hb hb2⟩
  have d1 : decide ((300 : Int) < (s.length : Int)) = false := decide_eq_false k1
  have hl3 : s.length ≤ 300 := by omega
  go_wp2_with (at_builtin; refine append_ints rfl (.tmp 23) (.tmp 24) rfl w1.heap.size _ 0 [] rfl (World.ownsRow_lit w1 #[] 0 (Nat.le_refl _) (by decide) rfl) p c s rfl (h1.keep (below_alloc w1 (.cells #[] 3))).1 (by omega) (by simp) ?_; intro v2 w2 o2 g2; rw [Nat.zero_add, List.nil_append] at o2; have hb2 := below_append' (below_alloc w1 _) (World.ownsRow_lit w1 #[] 0 (Nat.le_refl _) (by decide) rfl) g2; obtain ⟨q2, c2, rfl, n2, bd2⟩ := row_full o2; rw [List.length_map] at bd2; simp only [List.length_map])
  have i2 := n2.ints h.i64 hsm
  have h2 := h1.keep hb2
  have hb := below_t hb hb2
  clear n2 o2 g2 hb2
  obtain ⟨L, hL⟩ : ∃ L, s.take s.length ++ [x] ++ s.drop s.length = L := ⟨_, rfl⟩
  obtain ⟨n1, hn1⟩ : ∃ n1, s.length + 1 + (s.length - s.length) = n1 := ⟨_, rfl⟩
  have HLl : Hid (L.length = n1) := by rw [Hid, ← hL, ← hn1]; exact ins_len (by omega)
  have HL := Lib.hid hL
  have HN1 := Lib.hid hn1
  have d4 : ((s.length : Int) == (s.length : Int)) = true := by simp
  have d2 : decide ((s.length : Int) < 0) = false := by simp
  have d3 : decide ((s.length : Int) < (s.length : Int)) = false := by simp
  clear hL hn1
  refine (Replace_no q2 c2 s.length s.length (by omega) (by omega) hax x w2).mono ?_
  rintro e3 w3 ⟨rfl, hb3⟩
  have i3 := i2.keep hb3
  have h3 := h2.keep hb3
  have hb := below_t hb hb3
  go_wp2_with fail
  refine (Insert_is q2 c2 s s.length n1 L (by omega) HN1.out (by omega) bd2 x hx HL.out w3 i3).mono ?_
  rintro e4 w4 ⟨⟨qb, cb, rfl, hB, -⟩, hb4⟩
  have i4 := i3.keep hb4
  have h4 := h3.keep hb4
  have hb := below_t hb hb4
  go_wp2_with fail
  refine (Remove_no q2 c2 s.length s.length (by omega) (by omega) hax w4).mono ?_
  rintro e5 w5 ⟨rfl, rfl⟩
  go_wp2_with fail
  refine (refEq_true s s.length s.length rfl rfl _ _ _ _ _ i4 h4).mono ?_
  rintro e6 w6 ⟨rfl, hb6⟩
  have h6 := h4.keep hb6
  have hB := hB.keep hb6
  have hb := below_t hb hb6
  go_wp2_with fail
  refine (RefInsert_any p c s s.length x L (by omega) (by omega) HL.out _ h6).mono ?_
  rintro e7 w7 ⟨⟨qr, cr, rfl, hr⟩, hb7⟩
  have hB := hB.keep hb7
  have hR := hr.ints hB.i64 hB.small
  have hb := below_t hb hb7
  clear hr
  go_wp2_with fail
  refine (refEq_true L n1 L.length HLl.out rfl _ _ _ _ _ hB hR).mono ?_
  rintro e8 w8 ⟨rfl, hb8⟩
  have hb := below_t hb hb8
  go_wp2_with fail
  go_ret
  exact ⟨rfl, hb⟩
end Go.Proofs.YtfifjokmhhakkaaDoor
