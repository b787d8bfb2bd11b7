/- ShapeEdits, walked: where the axis is one of the list's. No condition beyond what each says. -/
import Derived.Test.YtfifjokmhhakkaaDoorLaw02c
namespace Go.Proofs.YtfifjokmhhakkaaDoor
open Go.RowKit Go.Shelf
set_option linter.unusedVariables false
set_option linter.unusedSimpArgs false

theorem below_set {B : Nat} {w w' : World} (h : Below B w w') {g : Nat} (hg : B ≤ g) (i : Nat) (v : Value) : Below B w (w'.setCell ⟨g, i, none⟩ v) := h.setCell (p := ⟨g, i, none⟩) hg v
theorem map_ne {s : List Int} {k : Nat} (h : k < s.length) : s.map (Value.int .i64) ≠ [] := fun e => by
  have := congrArg List.length e
  rw [List.length_map, List.length_nil] at this
  omega
theorem Replace_is (p : Option Addr) (c : Nat) (xs : List Int) (k : Nat) (L : List Int) {x : Int} (hk : k < xs.length) (hL : xs.take k ++ [x] ++ xs.drop (k + 1) = L) (hl : xs.length ≤ 1000) (hb : Bds p xs.length c) (x' : Int) (hx : I64 x) (w : World) (h : Ints w p xs) :
    Calls Tryd.prog 19 #[.slice p xs.length c, .int .i64 k, .int .i64 x] w fun e w' => (∃ q cap, e = .returned (.tuple #[.slice q xs.length cap, .int .i64 0]) ∧ Ints w' q L ∧ Bds q xs.length cap) ∧ Below w.heap.size w w' := by
  have e : k + 1 + (xs.length - (k + 1)) = xs.length := by omega
  have := Replace_yes p c xs k L hk hl hb x hx hL w h
  rw [e] at this
  refine this.mono fun e w' hr => edit_ints ?_ ?_ hr
  · rw [← hL]
    intro y hy
    rw [List.append_assoc] at hy
    rcases List.mem_append.1 hy with hy | hy
    · exact h.i64 y (List.mem_of_mem_take hy)
    · rcases List.mem_append.1 hy with hy | hy
      · rw [List.mem_singleton] at hy; subst hy; exact hx
      · exact h.i64 y (List.mem_of_mem_drop hy)
  · rw [← hL]; simp; omega

set_option maxRecDepth 100000 in
set_option maxHeartbeats 4000000 in
theorem Edits_in (p : Option Addr) (c : Nat) (s : List Int) (ax x : Int) (w : World) (h : Ints w p s) (hax : I64 ax) (hx : I64 x) (k : Nat) (hk : ax = (k : Int)) (hks : k < s.length) :
    Calls Tryd.prog 6 #[.slice p s.length c, .int .i64 ax, .int .i64 x] w fun e w' => e = .returned (.bool true) ∧ Below w.heap.size w w' := by
  have hsm := h.small
  subst hk
  have hax' := hax
  unfold I64 at hax'
  go_enter Tryd.func6, Tryd.ntmps6
  go_wp2_with fail
  refine (awake02 w).mono ?_
  rintro e1 w1 ⟨rfl, hb⟩
  have h1 := h.keep hb
  by_cases k1 : (300 : Int) < (s.length : Int)
  · have d1 : decide ((300 : Int) < (s.length : Int)) = true := decide_eq_true k1
    go_wp2_with fail
    refine (awake02 w1).mono ?_
    rintro e2 w2 ⟨rfl, hb2⟩
    go_wp2_with fail
    go_ret
    exact ⟨rfl, below_t hb hb2⟩
  have d1 : decide ((300 : Int) < (s.length : Int)) = false := decide_eq_false k1
  have hl3 : s.length ≤ 300 := by omega
  go_wp2_with (at_builtin; refine append_ints rfl (.tmp 23) (.tmp 24) rfl w1.heap.size _ 0 [] rfl (World.ownsRow_lit w1 #[] 0 (Nat.le_refl _) (by decide) rfl) p c s rfl (h1.keep (below_alloc w1 (.cells #[] 3))).1 (by omega) (by simp) ?_; intro v2 w2 o2 g2; rw [Nat.zero_add, List.nil_append] at o2; have hb2 := below_append' (below_alloc w1 _) (World.ownsRow_lit w1 #[] 0 (Nat.le_refl _) (by decide) rfl) g2; obtain ⟨q2, c2, rfl, n2, bd2⟩ := row_full o2; rw [List.length_map] at bd2; simp only [List.length_map])
  have i2 := n2.ints h.i64 hsm
  have h2 := h1.keep hb2
  have hb := below_t hb hb2
  clear n2 o2 g2 hb2
  obtain ⟨L, hL⟩ : ∃ L, s.take k ++ [x] ++ s.drop k = L := ⟨_, rfl⟩
  obtain ⟨n1, hn1⟩ : ∃ n1, k + 1 + (s.length - k) = n1 := ⟨_, rfl⟩
  obtain ⟨R, hR⟩ : ∃ R, s.set k x = R := ⟨_, rfl⟩
  obtain ⟨D, hD⟩ : ∃ D, s.take k ++ [] ++ s.drop (k + 1) = D := ⟨_, rfl⟩
  obtain ⟨n2, hn2⟩ : ∃ n2, k + (s.length - (k + 1)) = n2 := ⟨_, rfl⟩
  have HLl : Hid (L.length = n1) := by rw [Hid, ← hL, ← hn1]; exact ins_len (by omega)
  have HDl : Hid (D.length = n2) := by rw [Hid, ← hD, ← hn2]; simp; omega
  have HRl : Hid (R.length = s.length) := by rw [Hid, ← hR, List.length_set]
  have HRR : Hid (s.take k ++ [x] ++ s.drop (k + 1) = R) := by rw [Hid, ← hR, List.set_eq_take_append_cons_drop, if_pos hks]; simp
  have HR := Lib.hid hR
  have HL := Lib.hid hL
  have HD := Lib.hid hD
  have HN1 := Lib.hid hn1
  have HN2 := Lib.hid hn2
  have d4 : ((k : Int) == (s.length : Int)) = false := by simp; omega
  have d2 : decide ((k : Int) < 0) = false := by simp
  have d3 : decide ((s.length : Int) < (k : Int)) = false := by simp; omega
  have hki : (k : Int) < (s.length : Int) := by omega
  clear hL hn1 hR hD hn2
  refine (Replace_is q2 c2 s k R hks HRR.out (by omega) bd2 x hx w2 i2).mono ?_
  rintro e3 w3 ⟨⟨qa, ca, rfl, hA, -⟩, hb3⟩
  have i3 := i2.keep hb3
  have h3 := h2.keep hb3
  have hb := below_t hb hb3
  go_wp2_with fail
  refine (Insert_is q2 c2 s k n1 L (by omega) HN1.out (by omega) bd2 x hx HL.out w3 i3).mono ?_
  rintro e4 w4 ⟨⟨qb, cb, rfl, hB, -⟩, hb4⟩
  have i4 := i3.keep hb4
  have h4 := h3.keep hb4
  have hA := hA.keep hb4
  have hb := below_t hb hb4
  go_wp2_with fail
  refine (Remove_is q2 c2 s k s.length n2 D rfl hks HN2.out (by omega) bd2 HD.out w4 i4).mono ?_
  rintro e5 w5 ⟨⟨qc, cc, rfl, hC, -⟩, hb5⟩
  have i5 := i4.keep hb5
  have h5 := h4.keep hb5
  have hA := hA.keep hb5
  have hB := hB.keep hb5
  have hb := below_t hb hb5
  go_wp2_with fail
  refine (refEq_true s s.length s.length rfl rfl _ _ _ _ _ i5 h5).mono ?_
  rintro e6 w6 ⟨rfl, hb6⟩
  have h6 := h5.keep hb6
  have hA := hA.keep hb6
  have hB := hB.keep hb6
  have hC := hC.keep hb6
  have hb := below_t hb hb6
  go_wp2_with fail
  refine (RefInsert_any p c s k x L (by omega) (by omega) HL.out _ h6).mono ?_
  rintro e7 w7 ⟨⟨qr, cr, rfl, hr⟩, hb7⟩
  have h7 := h6.keep hb7
  have hA := hA.keep hb7
  have hB := hB.keep hb7
  have hC := hC.keep hb7
  have hRi := hr.ints hB.i64 hB.small
  have hb := below_t hb hb7
  clear hr
  go_wp2_with fail
  refine (refEq_true L n1 L.length HLl.out rfl _ _ _ _ _ hB hRi).mono ?_
  rintro e8 w8 ⟨rfl, hb8⟩
  have h8 := h7.keep hb8
  have hA := hA.keep hb8
  have hC := hC.keep hb8
  have hb := below_t hb hb8
  go_wp2_with (at_builtin; go_loud (refine append_ints rfl (.tmp 114) (.tmp 115) rfl w8.heap.size _ 0 [] rfl (World.ownsRow_lit w8 #[] 0 (Nat.le_refl _) (by decide) rfl) p c s rfl (h8.keep (below_alloc w8 (.cells #[] 3))).1 (by omega) (by simp) ?_; intro v9 w9 o9 g9; rw [Nat.zero_add, List.nil_append] at o9; have hb9 := below_append' (below_alloc w8 _) (World.ownsRow_lit w8 #[] 0 (Nat.le_refl _) (by decide) rfl) g9; obtain ⟨q9, c9, rfl, n9⟩ := row_new o9; simp only [List.length_map]; have hout := Or.resolve_left n9 (map_ne hks); obtain ⟨g, rfl, hg, ow⟩ := hout; have cst := ow.cell (i := k) (nth_map hks); have fst := ow.frozen k))
  have hbs : Below w8.heap.size w8 (w9.setCell ⟨g, k, none⟩ (.int .i64 x)) := below_set hb9 hg k _
  have hst := ow.set (i := k) (by rw [List.length_map]; exact hks) (.int .i64 x)
  rw [map_set, HR.out] at hst
  obtain ⟨W, hW⟩ : ∃ W, w9.setCell ⟨g, k, none⟩ (.int .i64 x) = W := ⟨_, rfl⟩
  rw [hW] at hbs hst ⊢
  have hA := hA.keep hbs
  have hC := hC.keep hbs
  have h9 := h8.keep hbs
  have hb := below_t hb hbs
  have iR : Ints W (some ⟨g, 0, none⟩) R := New.ints (B := 0) (e := 3) (.inr ⟨g, rfl, Nat.zero_le _, hst⟩) hA.i64 hA.small
  clear hW hst ow cst fst hb9 n9 g9 hbs
  refine (refEq_true R s.length s.length HRl.out HRl.out _ _ _ _ _ hA iR).mono ?_
  rintro e10 w10 ⟨rfl, hb10⟩
  have h10 := h9.keep hb10
  have hC := hC.keep hb10
  have hb := below_t hb hb10
  go_wp2_with fail
  refine (RefRemove_any p c s k D hks (by omega) HD.out _ h10).mono ?_
  rintro e11 w11 ⟨⟨qd, cd, rfl, hd⟩, hb11⟩
  have hC := hC.keep hb11
  have iD := hd.ints hC.i64 hC.small
  have hb := below_t hb hb11
  clear hd
  go_wp2_with fail
  refine (refEq_true D n2 D.length HDl.out rfl _ _ _ _ _ hC iD).mono ?_
  rintro e12 w12 ⟨rfl, hb12⟩
  have hb := below_t hb hb12
  go_wp2_with fail
  go_ret
  exact ⟨rfl, hb⟩
theorem ShapeEdits_law (p : Option Addr) (c : Nat) (s : List Int) (ax x : Int) (w : World) (h : Ints w p s) (hax : I64 ax) (hx : I64 x) (hbd : Bds p s.length c) :
    Calls Tryd.prog 6 #[.slice p s.length c, .int .i64 ax, .int .i64 x] w fun e w' => e = .returned (.bool true) ∧ Below w.heap.size w w' := by
  by_cases h1 : ax < 0 ∨ (s.length : Int) < ax
  · exact Edits_out p c s ax x w h hax hx h1
  · by_cases h2 : ax = (s.length : Int)
    · exact Edits_end p c s ax x w h hax hx s.length h2 rfl
    · exact Edits_in p c s ax x w h hax hx ax.toNat (by omega) (by omega)
end Go.Proofs.YtfifjokmhhakkaaDoor
