/- BoxMeets, walked: what two boxes have in common does not depend on their order. No condition. -/
import Derived.Test.YthkfjdhakbjllaaBox27
namespace Go.Proofs.Ythkfjdhakbjllaa
open Go.RowKit Go.Shelf
set_option linter.unusedVariables false
set_option linter.unusedSimpArgs false

/-- a variable that holds a box of the reference -/
structure VR (w : World) (g : Nat) (A B : Value) : Prop where
  own : Own w g 65 [A, B]
theorem VR.keep {a b : World} {g : Nat} {A B : Value} (h : VR a g A B) (hb : Below a.heap.size a b) : VR b g A B := ⟨h.own.keep hb h.own.lt⟩
theorem VR.c0 {w : World} {g : Nat} {A B : Value} (h : VR w g A B) : w.cell? ⟨g, 0, none⟩ = some A := h.own.cell (i := 0) rfl
theorem VR.c1 {w : World} {g : Nat} {A B : Value} (h : VR w g A B) : w.cell? ⟨g, 1, none⟩ = some B := h.own.cell (i := 1) rfl
theorem VR.new (w : World) (A B : Value) : VR (w.alloc (.cells #[A, B] 65)) w.heap.size A B := ⟨Own.made w _ [A, B] _ rfl⟩

/-- what two boxes have in common, in one form -/
theorem Meet_u (p q p' q' : Option Addr) (c f c' f' : Nat) (alo ahi blo bhi : List Int) (hl : alo.length ≤ 1000000) (ha : alo.length = ahi.length) (hb : blo.length = bhi.length) (hv : alo.length = blo.length → FullX (meetLo alo blo) (meetHi ahi bhi) → vol (meetLo alo blo) (meetHi ahi bhi) (meetLo alo blo).length ≤ 9000000000000000000)
    (m : Bool) (hm : decide (Meets alo ahi blo bhi) = m) (L H : List Int) (hL : (if m then meetLo alo blo else []) = L) (hH : (if m then meetHi ahi bhi else []) = H) (w : World) (h1 : Ints w p alo) (h2 : Ints w q ahi) (h3 : Ints w p' blo) (h4 : Ints w q' bhi) :
    Calls Try.prog 54 #[.agg #[.slice p alo.length c, .slice q ahi.length f], .agg #[.slice p' blo.length c', .slice q' bhi.length f']] w fun e w' => (∃ p c q f, e = .returned (.tuple #[.agg #[.slice p L.length c, .slice q H.length f], .bool m]) ∧ Ints w' p L ∧ Ints w' q H) ∧ Below w.heap.size w w' := by
  have hret : ∀ e w', MeetRet alo ahi blo bhi w e w' → (∃ p c q f, e = .returned (.tuple #[.agg #[.slice p L.length c, .slice q H.length f], .bool m]) ∧ Ints w' p L ∧ Ints w' q H) ∧ Below w.heap.size w w' := by
    rintro e w' ⟨h, hbw⟩
    refine ⟨?_, hbw⟩
    cases m with
    | true =>
      have hM : Meets alo ahi blo bhi := of_decide_eq_true hm
      have hL : meetLo alo blo = L := hL
      have hH : meetHi ahi bhi = H := hH
      rw [if_pos hM] at h
      obtain ⟨p, c, q, f, he, n1, n2⟩ := h
      have l1 : (meetLo alo blo).length = alo.length := meetLo_len hM.1
      have l2 : (meetHi ahi bhi).length = ahi.length := meetHi_len (by have := hM.1; omega)
      have j1 := n1.ints (mix_i64 mxI_or h1.i64 h3.i64) (by show (meetLo alo blo).length ≤ _; omega)
      have j2 := n2.ints (mix_i64 mnI_or h2.i64 h4.i64) (by show (meetHi ahi bhi).length ≤ _; omega)
      change Ints w' p (meetLo alo blo) at j1
      change Ints w' q (meetHi ahi bhi) at j2
      rw [hL] at he j1
      rw [hH] at he j2
      exact ⟨p, c, q, f, he, j1, j2⟩
    | false =>
      have hM : ¬ Meets alo ahi blo bhi := of_decide_eq_false hm
      have hL : ([] : List Int) = L := hL
      have hH : ([] : List Int) = H := hH
      subst hL hH
      rw [if_neg hM] at h
      exact ⟨none, 0, none, 0, h, Ints.nil _, Ints.nil _⟩
  by_cases hne : alo.length = blo.length
  · exact (Meet_any p q p' q' c f c' f' alo ahi blo bhi hl ha hb (hv hne) w h1 h2 h3 h4).mono hret
  · exact (Meet_len p q p' q' c f c' f' alo ahi blo bhi hne w h1 h2 h3 h4).mono hret

/-- three boxes that came in -/
theorem three_in (w : World) (A1 A2 B1 B2 C1 C2 : Value) : ∃ W, Hid (((w.alloc (.cells #[A1, A2] 65)).alloc (.cells #[B1, B2] 65)).alloc (.cells #[C1, C2] 65) = W) ∧ Below w.heap.size w W ∧ VR W w.heap.size A1 A2 ∧ VR W (w.heap.size + 1) B1 B2 ∧ VR W (w.heap.size + 1 + 1) C1 C2 := by
  have a1 := below_alloc w (.cells #[A1, A2] 65)
  have a2 := below_alloc (w.alloc (.cells #[A1, A2] 65)) (.cells #[B1, B2] 65)
  have a3 := below_alloc ((w.alloc (.cells #[A1, A2] 65)).alloc (.cells #[B1, B2] 65)) (.cells #[C1, C2] 65)
  exact ⟨_, rfl, below_t a1 (below_t a2 a3), ((VR.new w A1 A2).keep a2).keep a3, (VR.keep ⟨Own.made _ _ [B1, B2] _ (by simp)⟩ a3), ⟨Own.made _ _ [C1, C2] _ (by simp)⟩⟩

set_option maxRecDepth 100000 in
set_option maxHeartbeats 1000000 in
theorem Meets_nosmall (ap aq bp bq cp cq : Option Addr) (ac af bc bf cc cf : Nat) (alo ahi blo bhi clo chi : List Int) (hno : smallX alo ahi 300 = false ∨ smallX blo bhi 300 = false ∨ smallX clo chi 300 = false)
    (w : World) (h1 : Ints w ap alo) (h2 : Ints w aq ahi) (h3 : Ints w bp blo) (h4 : Ints w bq bhi) (h5 : Ints w cp clo) (h6 : Ints w cq chi) :
    Calls Try.prog 15 #[.agg #[.slice ap alo.length ac, .slice aq ahi.length af], .agg #[.slice bp blo.length bc, .slice bq bhi.length bf], .agg #[.slice cp clo.length cc, .slice cq chi.length cf]] w fun e w' => e = .returned (.bool true) ∧ Below w.heap.size w w' := by
  obtain ⟨W, HW, hb, A, B, C⟩ := three_in w (.slice ap alo.length ac) (.slice aq ahi.length af) (.slice bp blo.length bc) (.slice bq bhi.length bf) (.slice cp clo.length cc) (.slice cq chi.length cf)
  have h1 := h1.keep hb
  have h2 := h2.keep hb
  have h3 := h3.keep hb
  have h4 := h4.keep hb
  have h5 := h5.keep hb
  have h6 := h6.keep hb
  go_enter Try.func15, Try.ntmps15
  go_wp2_with fail
  rw [HW.out]
  clear HW
  generalize w.heap.size + 1 + 1 = gC at C ⊢
  generalize w.heap.size + 1 = gB at B ⊢
  refine (awake06 W).mono ?_
  rintro e1 w1 ⟨rfl, hb1⟩
  have A := A.keep hb1
  have hA0 := A.c0
  have hA1 := A.c1
  have B := B.keep hb1
  have C := C.keep hb1
  have h1 := h1.keep hb1
  have h2 := h2.keep hb1
  have h3 := h3.keep hb1
  have h4 := h4.keep hb1
  have h5 := h5.keep hb1
  have h6 := h6.keep hb1
  have hb := below_t hb hb1
  clear hb1
  go_wp2_with fail
  clear hA0 hA1
  refine (RefSmall6_any ap aq ac af alo ahi 300 (by decide) _ rfl _ h1 h2).mono ?_
  rintro e2 w2 ⟨rfl, hb2⟩
  have B := B.keep hb2
  have hB0 := B.c0
  have hB1 := B.c1
  have C := C.keep hb2
  have h3 := h3.keep hb2
  have h4 := h4.keep hb2
  have h5 := h5.keep hb2
  have h6 := h6.keep hb2
  have hb := below_t hb hb2
  clear hb2
  cases sa : smallX alo ahi 300 with
  | false =>
    go_wp2_with fail
    refine (awake06 _).mono ?_
    rintro e5 w5 ⟨rfl, hb5⟩
    have hb := below_t hb hb5
    go_wp2_with fail
    go_ret
    exact ⟨rfl, hb⟩
  | true =>
    go_wp2_with fail
    clear hB0 hB1
    refine (RefSmall6_any bp bq bc bf blo bhi 300 (by decide) _ rfl _ h3 h4).mono ?_
    rintro e3 w3 ⟨rfl, hb3⟩
    have C := C.keep hb3
    have hC0 := C.c0
    have hC1 := C.c1
    have h5 := h5.keep hb3
    have h6 := h6.keep hb3
    have hb := below_t hb hb3
    clear hb3
    cases sb : smallX blo bhi 300 with
    | false =>
      go_wp2_with fail
      refine (awake06 _).mono ?_
      rintro e5 w5 ⟨rfl, hb5⟩
      have hb := below_t hb hb5
      go_wp2_with fail
      go_ret
      exact ⟨rfl, hb⟩
    | true =>
      have sc : smallX clo chi 300 = false := by
        rcases hno with h | h | h
        · rw [sa] at h; cases h
        · rw [sb] at h; cases h
        · exact h
      go_wp2_with fail
      clear hC0 hC1
      refine (RefSmall6_any cp cq cc cf clo chi 300 (by decide) false sc _ h5 h6).mono ?_
      rintro e4 w4 ⟨rfl, hb4⟩
      have hb := below_t hb hb4
      go_wp2_with fail
      refine (awake06 _).mono ?_
      rintro e5 w5 ⟨rfl, hb5⟩
      have hb := below_t hb hb5
      go_wp2_with fail
      go_ret
      exact ⟨rfl, hb⟩
end Go.Proofs.Ythkfjdhakbjllaa
