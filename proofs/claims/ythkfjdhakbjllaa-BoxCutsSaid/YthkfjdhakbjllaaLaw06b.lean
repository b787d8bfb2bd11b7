/- BoxMeets, walked, where all three boxes are small. No condition. -/
import Derived.Test.YthkfjdhakbjllaaLaw06
namespace Go.Proofs.Ythkfjdhakbjllaa
open Go.RowKit Go.Shelf
set_option linter.unusedVariables false
set_option linter.unusedSimpArgs false

theorem eqS_self (xs : List Int) : eqS xs xs = true := by simp [eqS]
/-- where a and b, and b and c, meet: the two ways to meet all three -/
theorem meets_three {alo ahi blo bhi clo chi L1 H1 L4 H4 : List Int} (m1 : decide (Meets alo ahi blo bhi) = true) (m4 : decide (Meets blo bhi clo chi) = true) (ha : alo.length = ahi.length) (hb : blo.length = bhi.length) (hc : clo.length = chi.length)
    (l1 : (if true then meetLo alo blo else []) = L1) (h1 : (if true then meetHi ahi bhi else []) = H1) (l4 : (if true then meetLo blo clo else []) = L4) (h4 : (if true then meetHi bhi chi else []) = H4) :
    L1.length = alo.length ∧ H1.length = ahi.length ∧ L4.length = blo.length ∧ H4.length = bhi.length ∧ meetLo L1 clo = meetLo alo L4 ∧ meetHi H1 chi = meetHi ahi H4 ∧ decide (Meets L1 H1 clo chi) = decide (Meets alo ahi L4 H4) ∧ alo.length = blo.length := by
  have k1 := of_decide_eq_true m1
  have k4 := of_decide_eq_true m4
  have l1 : meetLo alo blo = L1 := l1
  have h1 : meetHi ahi bhi = H1 := h1
  have l4 : meetLo blo clo = L4 := l4
  have h4 : meetHi bhi chi = H4 := h4
  subst l1 h1 l4 h4
  have e1 := k1.1
  have e4 := k4.1
  exact ⟨meetLo_len e1, meetHi_len (by omega), meetLo_len e4, meetHi_len (by omega), meetLo_assoc e1 e4, meetHi_assoc (by omega) (by omega), decide_eq_decide.2 (meets_assoc ha hb hc e1 e4), e1⟩
theorem cells_pos {lo hi : List Int} (h : lo.length ≤ hi.length) {rs : List RowV} (hr : rs.map RowV.v = betX lo hi) {m : Bool} (hm : decide (FullX lo hi) = m) : decide ((0 : Int) < (rs.length : Int)) = m := by
  have e : (rs.length : Int) = countX lo hi := by
    have h1 := congrArg List.length hr
    rw [List.length_map, bet_len] at h1
    rw [h1]
    exact allX_count h
  rw [e, ← hm]
  by_cases hf : FullX lo hi
  · have := vol_pos hf lo.length (Nat.le_refl _)
    rw [decide_eq_true hf]
    unfold countX
    rw [if_pos hf]
    exact decide_eq_true (by omega)
  · rw [decide_eq_false hf]
    unfold countX
    rw [if_neg hf]
    rfl

set_option maxRecDepth 100000 in
set_option maxHeartbeats 4000000 in
theorem Meets_small (ap aq bp bq cp cq : Option Addr) (ac af bc bf cc cf : Nat) (alo ahi blo bhi clo chi : List Int) (sa : smallX alo ahi 300 = true) (sb : smallX blo bhi 300 = true) (sc : smallX clo chi 300 = true)
    (w : World) (h1 : Ints w ap alo) (h2 : Ints w aq ahi) (h3 : Ints w bp blo) (h4 : Ints w bq bhi) (h5 : Ints w cp clo) (h6 : Ints w cq chi) :
    Calls Try.prog 15 #[.agg #[.slice ap alo.length ac, .slice aq ahi.length af], .agg #[.slice bp blo.length bc, .slice bq bhi.length bf], .agg #[.slice cp clo.length cc, .slice cq chi.length cf]] w fun e w' => e = .returned (.bool true) ∧ Below w.heap.size w w' := by
  have SA := Lib.hid sa
  have SB := Lib.hid sb
  have SC := Lib.hid sc
  have F1 := Lib.hid (smallX_few sa).2
  have F2 := Lib.hid (smallX_few sb).2
  have LA := Lib.hid (smallX_few sa).1.1
  have LB := Lib.hid (smallX_few sb).1.1
  have LC := Lib.hid (smallX_few sc).1.1
  clear sa sb sc
  obtain ⟨m1, M1⟩ : ∃ m, Hid (decide (Meets alo ahi blo bhi) = m) := ⟨_, rfl⟩
  obtain ⟨m3, M3⟩ : ∃ m, Hid (decide (FullX alo ahi) = m) := ⟨_, rfl⟩
  obtain ⟨m4, M4⟩ : ∃ m, Hid (decide (Meets blo bhi clo chi) = m) := ⟨_, rfl⟩
  obtain ⟨L1, HL1⟩ : ∃ L, Hid ((if m1 then meetLo alo blo else []) = L) := ⟨_, rfl⟩
  obtain ⟨H1, HH1⟩ : ∃ L, Hid ((if m1 then meetHi ahi bhi else []) = L) := ⟨_, rfl⟩
  obtain ⟨L4, HL4⟩ : ∃ L, Hid ((if m4 then meetLo blo clo else []) = L) := ⟨_, rfl⟩
  obtain ⟨H4, HH4⟩ : ∃ L, Hid ((if m4 then meetHi bhi chi else []) = L) := ⟨_, rfl⟩
  obtain ⟨m5, M5⟩ : ∃ m, Hid (decide (Meets L1 H1 clo chi) = m) := ⟨_, rfl⟩
  obtain ⟨L5, HL5⟩ : ∃ L, Hid ((if m5 then meetLo L1 clo else []) = L) := ⟨_, rfl⟩
  obtain ⟨H5, HH5⟩ : ∃ L, Hid ((if m5 then meetHi H1 chi else []) = L) := ⟨_, rfl⟩
  have M2 : Hid (decide (Meets blo bhi alo ahi) = m1) := by rw [Hid, ← M1.out]; exact decide_eq_decide.2 (meets_comm LB.out LA.out)
  have HL2 : Hid ((if m1 then meetLo blo alo else []) = L1) := by
    rw [Hid, ← HL1.out]
    cases m1 with
    | false => rfl
    | true => exact meetLo_comm (of_decide_eq_true M2.out).1
  have HH2 : Hid ((if m1 then meetHi bhi ahi else []) = H1) := by
    rw [Hid, ← HH1.out]
    cases m1 with
    | false => rfl
    | true => exact meetHi_comm (by have := (of_decide_eq_true M2.out).1; have := LA.out; have := LB.out; omega)
  have MS : Hid (decide (Meets alo ahi alo ahi) = m3) := by rw [Hid, ← M3.out]; exact decide_eq_decide.2 meets_self
  obtain ⟨W, HW, hb, A, B, C⟩ := three_in w (.slice ap alo.length ac) (.slice aq ahi.length af) (.slice bp blo.length bc) (.slice bq bhi.length bf) (.slice cp clo.length cc) (.slice cq chi.length cf)
  have h1 := h1.keep hb
  have h2 := h2.keep hb
  have h3 := h3.keep hb
  have h4 := h4.keep hb
  have h5 := h5.keep hb
  have h6 := h6.keep hb
  go_enter Try.func15, Try.ntmps15
  go_wp2_with fail
  rw [HW.out]
  clear HW
  generalize w.heap.size + 1 + 1 = gC at C ⊢
  generalize w.heap.size + 1 = gB at B ⊢
  obtain ⟨gA, hgA⟩ : ∃ g, w.heap.size = g := ⟨_, rfl⟩
  refine (awake06 W).mono ?_
  rintro e1 w1 ⟨rfl, hb1⟩
  have A := A.keep hb1
  have hA0 := A.c0
  have hA1 := A.c1
  have B := B.keep hb1
  have C := C.keep hb1
  have h1 := h1.keep hb1
  have h2 := h2.keep hb1
  have h3 := h3.keep hb1
  have h4 := h4.keep hb1
  have h5 := h5.keep hb1
  have h6 := h6.keep hb1
  have hb := below_t hb hb1
  clear hb1
  clear hgA
  go_wp2_with fail
  clear hA0 hA1
  refine (RefSmall6_any ap aq ac af alo ahi 300 (by decide) true SA.out _ h1 h2).mono ?_
  rintro e2 w2 ⟨rfl, hb2⟩
  have A := A.keep hb2
  have B := B.keep hb2
  have hB0 := B.c0
  have hB1 := B.c1
  have C := C.keep hb2
  have h1 := h1.keep hb2
  have h2 := h2.keep hb2
  have h3 := h3.keep hb2
  have h4 := h4.keep hb2
  have h5 := h5.keep hb2
  have h6 := h6.keep hb2
  have hb := below_t hb hb2
  clear hb2
  go_wp2_with fail
  clear hB0 hB1
  refine (RefSmall6_any bp bq bc bf blo bhi 300 (by decide) true SB.out _ h3 h4).mono ?_
  rintro e3 w3 ⟨rfl, hb3⟩
  have A := A.keep hb3
  have B := B.keep hb3
  have C := C.keep hb3
  have hC0 := C.c0
  have hC1 := C.c1
  have h1 := h1.keep hb3
  have h2 := h2.keep hb3
  have h3 := h3.keep hb3
  have h4 := h4.keep hb3
  have h5 := h5.keep hb3
  have h6 := h6.keep hb3
  have hb := below_t hb hb3
  clear hb3
  go_wp2_with fail
  clear hC0 hC1
  refine (RefSmall6_any cp cq cc cf clo chi 300 (by decide) true SC.out _ h5 h6).mono ?_
  rintro e4 w4 ⟨rfl, hb4⟩
  have A := A.keep hb4
  have hA0 := A.c0
  have hA1 := A.c1
  have B := B.keep hb4
  have hB0 := B.c0
  have hB1 := B.c1
  have C := C.keep hb4
  have h1 := h1.keep hb4
  have h2 := h2.keep hb4
  have h3 := h3.keep hb4
  have h4 := h4.keep hb4
  have h5 := h5.keep hb4
  have h6 := h6.keep hb4
  have hb := below_t hb hb4
  clear hb4
  go_wp2_with fail
  clear hA0 hA1 hB0 hB1
  refine (Meet_u ap aq bp bq ac af bc bf alo ahi blo bhi (by have := F1.out.2.1; omega) LA.out LB.out (fun e => meet_small SA.out LB.out e) m1 M1.out L1 H1 HL1.out HH1.out _ h1 h2 h3 h4).mono ?_
  rintro e5 w5 ⟨⟨xp, xc, xq, xf, rfl, ix, jx⟩, hb5⟩
  have hba := below_alloc w5 (.cells #[.slice xp L1.length xc, .slice xq H1.length xf] 67)
  have X := V2.new w5 (.slice xp L1.length xc) (.slice xq H1.length xf)
  have ix := ix.keep hba
  have jx := jx.keep hba
  have hb5 := below_t hb5 hba
  clear hba
  have A := A.keep hb5
  have hA0 := A.c0
  have hA1 := A.c1
  have B := B.keep hb5
  have hB0 := B.c0
  have hB1 := B.c1
  have C := C.keep hb5
  have h1 := h1.keep hb5
  have h2 := h2.keep hb5
  have h3 := h3.keep hb5
  have h4 := h4.keep hb5
  have h5 := h5.keep hb5
  have h6 := h6.keep hb5
  have hb := below_t hb hb5
  clear hb5
  go_wp2_with fail
  clear hA0 hA1 hB0 hB1
  refine (Meet_u bp bq ap aq bc bf ac af blo bhi alo ahi (by have := F2.out.2.1; omega) LB.out LA.out (fun e => meet_small SB.out LA.out e) m1 M2.out L1 H1 HL2.out HH2.out _ h3 h4 h1 h2).mono ?_
  rintro e6 w6 ⟨⟨yp, yc, yq, yf, rfl, iy, jy⟩, hb6⟩
  have hba := below_alloc w6 (.cells #[.slice yp L1.length yc, .slice yq H1.length yf] 67)
  have Y := V2.new w6 (.slice yp L1.length yc) (.slice yq H1.length yf)
  have iy := iy.keep hba
  have jy := jy.keep hba
  have hb6 := below_t hb6 hba
  clear hba
  have A := A.keep hb6
  have hA0 := A.c0
  have hA1 := A.c1
  have B := B.keep hb6
  have C := C.keep hb6
  have X := X.keep hb6
  have h1 := h1.keep hb6
  have h2 := h2.keep hb6
  have h3 := h3.keep hb6
  have h4 := h4.keep hb6
  have h5 := h5.keep hb6
  have h6 := h6.keep hb6
  have ix := ix.keep hb6
  have jx := jx.keep hb6
  have hb := below_t hb hb6
  clear hb6
  obtain ⟨L3, HL3⟩ : ∃ L, Hid ((if m3 then meetLo alo alo else []) = L) := ⟨_, rfl⟩
  obtain ⟨H3, HH3⟩ : ∃ L, Hid ((if m3 then meetHi ahi ahi else []) = L) := ⟨_, rfl⟩
  go_wp2_with fail
  clear hA0 hA1
  refine (Meet_u ap aq ap aq ac af ac af alo ahi alo ahi (by have := F1.out.2.1; omega) LA.out LA.out (fun e => meet_small SA.out LA.out e) m3 MS.out L3 H3 HL3.out HH3.out _ h1 h2 h1 h2).mono ?_
  rintro e7 w7 ⟨⟨sp, sc, sq, sf, rfl, is, js⟩, hb7⟩
  have hba := below_alloc w7 (.cells #[.slice sp L3.length sc, .slice sq H3.length sf] 67)
  have S := V2.new w7 (.slice sp L3.length sc) (.slice sq H3.length sf)
  have is := is.keep hba
  have js := js.keep hba
  have hb7 := below_t hb7 hba
  clear hba
  have A := A.keep hb7
  have B := B.keep hb7
  have C := C.keep hb7
  have X := X.keep hb7
  have hX0 := X.c0
  have hX1 := X.c1
  have Y := Y.keep hb7
  have hY0 := Y.c0
  have hY1 := Y.c1
  have h1 := h1.keep hb7
  have h2 := h2.keep hb7
  have h3 := h3.keep hb7
  have h4 := h4.keep hb7
  have h5 := h5.keep hb7
  have h6 := h6.keep hb7
  have ix := ix.keep hb7
  have jx := jx.keep hb7
  have iy := iy.keep hb7
  have jy := jy.keep hb7
  have hb := below_t hb hb7
  clear hb7
  have hmm : (m1 != m1) = false := by simp
  go_wp2_with fail
  clear hX0 hX1 hY0 hY1 hmm
  refine (BoxSame_any xp xq yp yq xc xf yc yf L1 H1 L1 H1 true (by simp [sameX, eqS_self]) _ ix jx iy jy).mono ?_
  rintro e8 w8 ⟨rfl, hb8⟩
  clear Y iy jy
  have A := A.keep hb8
  have hA0 := A.c0
  have hA1 := A.c1
  have B := B.keep hb8
  have C := C.keep hb8
  have X := X.keep hb8
  have S := S.keep hb8
  have h1 := h1.keep hb8
  have h2 := h2.keep hb8
  have h3 := h3.keep hb8
  have h4 := h4.keep hb8
  have h5 := h5.keep hb8
  have h6 := h6.keep hb8
  have ix := ix.keep hb8
  have jx := jx.keep hb8
  have is := is.keep hb8
  have js := js.keep hb8
  have hb := below_t hb hb8
  clear hb8
  go_wp2_with fail
  clear hA0 hA1
  refine (RefCells6_any ap aq ac af alo ahi 300 (by decide) (by decide) F1.out _ h1 h2).mono ?_
  rintro e20 w20 ⟨⟨rp, rc, rs, rfl, -, hrv⟩, hb20⟩
  have hrn : decide ((0 : Int) < (rs.length : Int)) = m3 := cells_pos (by have := LA.out; omega) hrv M3.out
  clear hrv
  have A := A.keep hb20
  have hA0 := A.c0
  have hA1 := A.c1
  have B := B.keep hb20
  have hB0 := B.c0
  have hB1 := B.c1
  have C := C.keep hb20
  have hC0 := C.c0
  have hC1 := C.c1
  have X := X.keep hb20
  have S := S.keep hb20
  have hS0 := S.c0
  have hS1 := S.c1
  have h1 := h1.keep hb20
  have h2 := h2.keep hb20
  have h3 := h3.keep hb20
  have h4 := h4.keep hb20
  have h5 := h5.keep hb20
  have h6 := h6.keep hb20
  have ix := ix.keep hb20
  have jx := jx.keep hb20
  have is := is.keep hb20
  have js := js.keep hb20
  have hb := below_t hb hb20
  clear hb20
  cases m3 with
  | false =>
    have hg : ¬ (0 : Int) < (rs.length : Int) := of_decide_eq_false hrn
    have hr0 : rs = [] := List.eq_nil_of_length_eq_zero (by omega)
    subst hr0
    clear hg hrn
    clear S is js hS0 hS1 hA0 hA1
    go_wp2_with fail
    clear hB0 hB1 hC0 hC1
    refine (Meet_u bp bq cp cq bc bf cc cf blo bhi clo chi (by have := F2.out.2.1; omega) LB.out LC.out (fun e => meet_small SB.out LC.out e) m4 M4.out L4 H4 HL4.out HH4.out _ h3 h4 h5 h6).mono ?_
    rintro e9 w9 ⟨⟨dp, dc, dq, df, rfl, id', jd⟩, hb9⟩
    have hba := below_alloc w9 (.cells #[.slice dp L4.length dc, .slice dq H4.length df] 67)
    have D := V2.new w9 (.slice dp L4.length dc) (.slice dq H4.length df)
    have id' := id'.keep hba
    have jd := jd.keep hba
    have hb9 := below_t hb9 hba
    clear hba
    have X := X.keep hb9
    have hX0 := X.c0
    have hX1 := X.c1
    have A := A.keep hb9
    have C := C.keep hb9
    have hC0 := C.c0
    have hC1 := C.c1
    have h1 := h1.keep hb9
    have h2 := h2.keep hb9
    have h5 := h5.keep hb9
    have h6 := h6.keep hb9
    have ix := ix.keep hb9
    have jx := jx.keep hb9
    have hb := below_t hb hb9
    clear hb9
    cases m1 with
    | false =>
      go_wp2_with fail
      go_ret
      exact ⟨rfl, hb⟩
    | true =>
      cases m4 with
      | false =>
        go_wp2_with fail
        go_ret
        exact ⟨rfl, hb⟩
      | true =>
        have E := Lib.hid (meets_three M1.out M4.out LA.out LB.out LC.out HL1.out HH1.out HL4.out HH4.out)
        go_wp2_with fail
        clear hX0 hX1 hC0 hC1
        refine (Meet_u xp xq cp cq xc xf cc cf L1 H1 clo chi (by have := E.out.1; have := F1.out.2.1; omega) (by have := E.out.1; have := E.out.2.1; have := LA.out; omega) LC.out (fun _ => by rw [E.out.2.2.2.2.1, E.out.2.2.2.2.2.1]; exact meet_small SA.out (by have := E.out.2.2.1; have := E.out.2.2.2.1; have := LB.out; omega) (by have := E.out.2.2.1; have := E.out.2.2.2.2.2.2.2; omega)) m5 M5.out L5 H5 HL5.out HH5.out _ ix jx h5 h6).mono ?_
        rintro e10 w10 ⟨⟨up, uc, uq, uf, rfl, iu, ju⟩, hb10⟩
        have hba := below_alloc w10 (.cells #[.slice up L5.length uc, .slice uq H5.length uf] 67)
        have U := V2.new w10 (.slice up L5.length uc) (.slice uq H5.length uf)
        have iu := iu.keep hba
        have ju := ju.keep hba
        have hb10 := below_t hb10 hba
        clear hba X ix jx C h5 h6
        have A := A.keep hb10
        have hA0 := A.c0
        have hA1 := A.c1
        have D := D.keep hb10
        have hD0 := D.c0
        have hD1 := D.c1
        have h1 := h1.keep hb10
        have h2 := h2.keep hb10
        have id' := id'.keep hb10
        have jd := jd.keep hb10
        have hb := below_t hb hb10
        clear hb10
        go_wp2_with fail
        clear hA0 hA1 hD0 hD1
        refine (Meet_u ap aq dp dq ac af dc df alo ahi L4 H4 (by have := F1.out.2.1; omega) LA.out (by have := E.out.2.2.1; have := E.out.2.2.2.1; have := LB.out; omega) (fun e => meet_small SA.out (by have := E.out.2.2.1; have := E.out.2.2.2.1; have := LB.out; omega) e) m5 (by rw [← M5.out]; exact E.out.2.2.2.2.2.2.1.symm) L5 H5 (by rw [← E.out.2.2.2.2.1]; exact HL5.out) (by rw [← E.out.2.2.2.2.2.1]; exact HH5.out) _ h1 h2 id' jd).mono ?_
        rintro e11 w11 ⟨⟨vp, vc, vq, vf, rfl, iv, jv⟩, hb11⟩
        have hba := below_alloc w11 (.cells #[.slice vp L5.length vc, .slice vq H5.length vf] 67)
        have V := V2.new w11 (.slice vp L5.length vc) (.slice vq H5.length vf)
        have iv := iv.keep hba
        have jv := jv.keep hba
        have hb11 := below_t hb11 hba
        clear hba A D h1 h2 id' jd
        have U := U.keep hb11
        have hU0 := U.c0
        have hU1 := U.c1
        have iu := iu.keep hb11
        have ju := ju.keep hb11
        have hb := below_t hb hb11
        clear hb11
        have hm5 : (m5 == m5) = true := by simp
        go_wp2_with fail
        clear hU0 hU1
        refine (BoxSame_any up uq vp vq uc uf vc vf L5 H5 L5 H5 true (by simp [sameX, eqS_self]) _ iu ju iv jv).mono ?_
        rintro e12 w12 ⟨rfl, hb12⟩
        have hb := below_t hb hb12
        go_wp2_with fail
        go_ret
        exact ⟨rfl, hb⟩
  | true =>
    have hg : (0 : Int) < (rs.length : Int) := of_decide_eq_true hrn
    have e3 : Hid (L3 = alo) := by rw [Hid, ← HL3.out]; exact meetLo_self
    have e4 : Hid (H3 = ahi) := by rw [Hid, ← HH3.out]; exact meetHi_self
    go_wp2_with fail
    clear hS0 hS1 hA0 hA1 hB0 hB1 hC0 hC1
    refine (BoxSame_any sp sq ap aq sc sf ac af L3 H3 alo ahi true (by rw [e3.out, e4.out]; simp [sameX, eqS_self]) _ is js h1 h2).mono ?_
    rintro e21 w21 ⟨rfl, hb21⟩
    clear S is js e3 e4 HL3 HH3
    have A := A.keep hb21
    have hA0 := A.c0
    have hA1 := A.c1
    have B := B.keep hb21
    have hB0 := B.c0
    have hB1 := B.c1
    have C := C.keep hb21
    have hC0 := C.c0
    have hC1 := C.c1
    have X := X.keep hb21
    have h1 := h1.keep hb21
    have h2 := h2.keep hb21
    have h3 := h3.keep hb21
    have h4 := h4.keep hb21
    have h5 := h5.keep hb21
    have h6 := h6.keep hb21
    have ix := ix.keep hb21
    have jx := jx.keep hb21
    have hb := below_t hb hb21
    clear hb21
    clear hA0 hA1
    go_wp2_with fail
    clear hB0 hB1 hC0 hC1
    refine (Meet_u bp bq cp cq bc bf cc cf blo bhi clo chi (by have := F2.out.2.1; omega) LB.out LC.out (fun e => meet_small SB.out LC.out e) m4 M4.out L4 H4 HL4.out HH4.out _ h3 h4 h5 h6).mono ?_
    rintro e9 w9 ⟨⟨dp, dc, dq, df, rfl, id', jd⟩, hb9⟩
    have hba := below_alloc w9 (.cells #[.slice dp L4.length dc, .slice dq H4.length df] 67)
    have D := V2.new w9 (.slice dp L4.length dc) (.slice dq H4.length df)
    have id' := id'.keep hba
    have jd := jd.keep hba
    have hb9 := below_t hb9 hba
    clear hba
    have X := X.keep hb9
    have hX0 := X.c0
    have hX1 := X.c1
    have A := A.keep hb9
    have C := C.keep hb9
    have hC0 := C.c0
    have hC1 := C.c1
    have h1 := h1.keep hb9
    have h2 := h2.keep hb9
    have h5 := h5.keep hb9
    have h6 := h6.keep hb9
    have ix := ix.keep hb9
    have jx := jx.keep hb9
    have hb := below_t hb hb9
    clear hb9
    cases m1 with
    | false =>
      go_wp2_with fail
      go_ret
      exact ⟨rfl, hb⟩
    | true =>
      cases m4 with
      | false =>
        go_wp2_with fail
        go_ret
        exact ⟨rfl, hb⟩
      | true =>
        have E := Lib.hid (meets_three M1.out M4.out LA.out LB.out LC.out HL1.out HH1.out HL4.out HH4.out)
        go_wp2_with fail
        clear hX0 hX1 hC0 hC1
        refine (Meet_u xp xq cp cq xc xf cc cf L1 H1 clo chi (by have := E.out.1; have := F1.out.2.1; omega) (by have := E.out.1; have := E.out.2.1; have := LA.out; omega) LC.out (fun _ => by rw [E.out.2.2.2.2.1, E.out.2.2.2.2.2.1]; exact meet_small SA.out (by have := E.out.2.2.1; have := E.out.2.2.2.1; have := LB.out; omega) (by have := E.out.2.2.1; have := E.out.2.2.2.2.2.2.2; omega)) m5 M5.out L5 H5 HL5.out HH5.out _ ix jx h5 h6).mono ?_
        rintro e10 w10 ⟨⟨up, uc, uq, uf, rfl, iu, ju⟩, hb10⟩
        have hba := below_alloc w10 (.cells #[.slice up L5.length uc, .slice uq H5.length uf] 67)
        have U := V2.new w10 (.slice up L5.length uc) (.slice uq H5.length uf)
        have iu := iu.keep hba
        have ju := ju.keep hba
        have hb10 := below_t hb10 hba
        clear hba X ix jx C h5 h6
        have A := A.keep hb10
        have hA0 := A.c0
        have hA1 := A.c1
        have D := D.keep hb10
        have hD0 := D.c0
        have hD1 := D.c1
        have h1 := h1.keep hb10
        have h2 := h2.keep hb10
        have id' := id'.keep hb10
        have jd := jd.keep hb10
        have hb := below_t hb hb10
        clear hb10
        go_wp2_with fail
        clear hA0 hA1 hD0 hD1
        refine (Meet_u ap aq dp dq ac af dc df alo ahi L4 H4 (by have := F1.out.2.1; omega) LA.out (by have := E.out.2.2.1; have := E.out.2.2.2.1; have := LB.out; omega) (fun e => meet_small SA.out (by have := E.out.2.2.1; have := E.out.2.2.2.1; have := LB.out; omega) e) m5 (by rw [← M5.out]; exact E.out.2.2.2.2.2.2.1.symm) L5 H5 (by rw [← E.out.2.2.2.2.1]; exact HL5.out) (by rw [← E.out.2.2.2.2.2.1]; exact HH5.out) _ h1 h2 id' jd).mono ?_
        rintro e11 w11 ⟨⟨vp, vc, vq, vf, rfl, iv, jv⟩, hb11⟩
        have hba := below_alloc w11 (.cells #[.slice vp L5.length vc, .slice vq H5.length vf] 67)
        have V := V2.new w11 (.slice vp L5.length vc) (.slice vq H5.length vf)
        have iv := iv.keep hba
        have jv := jv.keep hba
        have hb11 := below_t hb11 hba
        clear hba A D h1 h2 id' jd
        have U := U.keep hb11
        have hU0 := U.c0
        have hU1 := U.c1
        have iu := iu.keep hb11
        have ju := ju.keep hb11
        have hb := below_t hb hb11
        clear hb11
        have hm5 : (m5 == m5) = true := by simp
        go_wp2_with fail
        clear hU0 hU1
        refine (BoxSame_any up uq vp vq uc uf vc vf L5 H5 L5 H5 true (by simp [sameX, eqS_self]) _ iu ju iv jv).mono ?_
        rintro e12 w12 ⟨rfl, hb12⟩
        have hb := below_t hb hb12
        go_wp2_with fail
        go_ret
        exact ⟨rfl, hb⟩
end Go.Proofs.Ythkfjdhakbjllaa
