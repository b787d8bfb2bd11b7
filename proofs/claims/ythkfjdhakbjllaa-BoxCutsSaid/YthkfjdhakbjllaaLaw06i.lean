/- BoxCuts, walked. No condition. -/
import Derived.Test.YthkfjdhakbjllaaLaw06h
namespace Go.Proofs.Ythkfjdhakbjllaa
open Go.RowKit Go.Shelf
set_option linter.unusedVariables false
set_option linter.unusedSimpArgs false

theorem bx_eq {a b : BoxV} (h : a.bx = b.bx) : b.lo = a.lo ∧ b.hi = a.hi := by
  unfold BoxV.bx at h
  injection h with h1 h2
  exact ⟨h1.symm, h2.symm⟩
theorem refSame_is (p q p' q' : Option Addr) (c f c' f' : Nat) (lo hi : List Int) (w : World) (h1 : Ints w p lo) (h2 : Ints w q hi) (h3 : Ints w p' lo) (h4 : Ints w q' hi) :
    Calls Try.prog 56 #[.agg #[.slice p lo.length c, .slice q hi.length f], .agg #[.slice p' lo.length c', .slice q' hi.length f']] w fun e w' => e = .returned (.bool true) ∧ Below w.heap.size w w' :=
  BoxSame_any p q p' q' c f c' f' lo hi lo hi true (sameX_self lo hi) w h1 h2 h3 h4
theorem boxMinus_all (p q p' q' : Option Addr) (c f c' f' : Nat) (alo ahi blo bhi : List Int) (n1 : NL alo) (n2 : NL ahi) (h5 : alo.length ≤ 5) (ha : alo.length = ahi.length) (hb : blo.length = bhi.length) (w : World) (h1 : Ints w p alo) (h2 : Ints w q ahi) (h3 : Ints w p' blo) (h4 : Ints w q' bhi) :
    Calls Try.prog 61 #[.agg #[.slice p alo.length c, .slice q ahi.length f], .agg #[.slice p' blo.length c', .slice q' bhi.length f']] w (MinusRet alo ahi blo bhi w) := by
  rw [← ha, ← hb]
  by_cases hm : Meets alo ahi blo bhi
  · exact Minus_yes p q p' q' c f c' f' alo ahi blo bhi _ _ rfl ha.symm rfl hb.symm h5 n1 n2 hm w h1 h2 h3 h4
  · exact Minus_no p q p' q' c f c' f' alo ahi blo bhi _ _ rfl ha.symm rfl hb.symm h5 n1 n2 hm w h1 h2 h3 h4
theorem refMinus_is (p q p' q' : Option Addr) (c f c' f' : Nat) (alo ahi blo bhi : List Int) (h5 : alo.length ≤ 5) (ha : alo.length = ahi.length) (hb : blo.length = bhi.length) (w : World) (h1 : Ints w p alo) (h2 : Ints w q ahi) (h3 : Ints w p' blo) (h4 : Ints w q' bhi) :
    Calls Try.prog 62 #[.agg #[.slice p alo.length c, .slice q ahi.length f], .agg #[.slice p' blo.length c', .slice q' bhi.length f']] w (RefMinusRet alo ahi blo bhi w) := by
  rw [← ha, ← hb]
  exact RefMinus_all p q p' q' c f c' f' alo ahi blo bhi _ _ rfl ha.symm rfl hb.symm (by omega) w h1 h2 h3 h4
/-- the boxes' values read as numbers -/
theorem newsB_ints {B : Nat} {w : World} {bs : List BoxV} {ds : List BoxV} {w0 : World} (h : NewsB B w bs) (k : BoxesI w0 ds) (he : bs.map BoxV.bx = ds.map BoxV.bx) : BoxesI w bs := fun x hx => by
  have hm := List.mem_map_of_mem (f := BoxV.bx) hx
  rw [he] at hm
  obtain ⟨d, hd, e⟩ := List.mem_map.1 hm
  obtain ⟨e1, e2⟩ := bx_eq e
  obtain ⟨i1, i2⟩ := k d hd
  rw [← e1] at i1
  rw [← e2] at i2
  exact ⟨(h x hx).1.ints i1.i64 i1.small, (h x hx).2.ints i2.i64 i2.small⟩
/-- box k of a list in memory -/
theorem boxes_at {B : Nat} {w : World} {p : Option Addr} {e : TypeId} {bs : List BoxV} (h : New B w p e (flatB bs)) {k : Nat} {b : BoxV} (hk : bs[k]? = some b) :
    ∃ g, p = some ⟨g, 0, none⟩ ∧ g < w.heap.size ∧ w.cell? ⟨g, k * 2, none⟩ = some (.slice b.p b.lo.length b.c) ∧ w.cell? ⟨g, k * 2 + 1, none⟩ = some (.slice b.q b.hi.length b.f) := by
  obtain ⟨f1, f2⟩ := flatB_at hk
  obtain ⟨g, hp, -, ho⟩ := h.out (fun e => by rw [e] at f1; simp at f1)
  exact ⟨g, hp, ho.lt, ho.cell f1, ho.cell f2⟩

theorem in_i64 {lo hi r : List Int} (h : InX lo hi r) (n1 : NL lo) (n2 : NL hi) (hl : lo.length = hi.length) : ∀ x ∈ r, I64 x := fun x hx => by
  obtain ⟨j, hj, rfl⟩ := List.mem_iff_getElem.1 hx
  have h1 := h.2 j hj
  have e : nth r j = r[j] := by simp [nth, hj]
  rw [e] at h1
  have := n1.nth (k := j) (by have := h.1; omega)
  have := n2.nth (k := j) (by have := h.1; omega)
  unfold I64
  omega

set_option maxRecDepth 100000 in
set_option maxHeartbeats 4000000 in
theorem BoxCuts_law (p0 : Option Addr) (c0 : Nat) (s0 : List Int) (q0 : Option Addr) (f0 : Nat) (t0 : List Int) (p1 : Option Addr) (c1 : Nat) (s1 : List Int) (q1 : Option Addr) (f1 : Nat) (t1 : List Int) (w : World)
    (h0 : Ints w p0 s0) (g0 : Ints w q0 t0) (h1 : Ints w p1 s1) (g1 : Ints w q1 t1) :
    Calls Try.prog 13 #[.agg #[.slice p0 s0.length c0, .slice q0 t0.length f0], .agg #[.slice p1 s1.length c1, .slice q1 t1.length f1]] w fun e w' => e = .returned (.bool true) ∧ Below w.heap.size w w' := by
  obtain ⟨W, HW, hb, A, B⟩ := two_in w (.slice p0 s0.length c0) (.slice q0 t0.length f0) (.slice p1 s1.length c1) (.slice q1 t1.length f1)
  have h0 := h0.keep hb
  have g0 := g0.keep hb
  have h1 := h1.keep hb
  have g1 := g1.keep hb
  go_enter Try.func13, Try.ntmps13
  go_wp2_with fail
  rw [HW.out]
  clear HW
  generalize w.heap.size + 1 = gB at B ⊢
  refine (awake06 W).mono ?_
  rintro e1 w1 ⟨rfl, hb1⟩
  have A := A.keep hb1
  have hA0 := A.c0
  have hA1 := A.c1
  have B := B.keep hb1
  have hB0 := B.c0
  have hB1 := B.c1
  have h0 := h0.keep hb1
  have g0 := g0.keep hb1
  have h1 := h1.keep hb1
  have g1 := g1.keep hb1
  have hb := below_t hb hb1
  clear hb1
  have again : Hid (∀ z, Below w.heap.size w z → Calls Try.prog 50 #[] z fun e w' => e = .returned (.bool true) ∧ Below w.heap.size w w') := fun z hz => (awake06 z).mono fun e w' ⟨he, h⟩ => ⟨he, below_t hz h⟩
  go_wp2_with fail
  clear hA0 hA1 hB0 hB1
  refine (RefSmall6_any p0 q0 c0 f0 s0 t0 200 (by decide) _ rfl _ h0 g0).mono ?_
  rintro e5 w5 ⟨rfl, hb5⟩
  have A := A.keep hb5
  have hA0 := A.c0
  have hA1 := A.c1
  have B := B.keep hb5
  have hB0 := B.c0
  have hB1 := B.c1
  have h0 := h0.keep hb5
  have g0 := g0.keep hb5
  have h1 := h1.keep hb5
  have g1 := g1.keep hb5
  have hb := below_t hb hb5
  clear hb5
  cases sa : smallX s0 t0 200 with
  | false =>
    go_wp2_with fail
    refine (again.out _ hb).mono ?_
    rintro e2 w2 ⟨rfl, hb2⟩
    go_wp2_with fail
    go_ret
    exact ⟨rfl, hb2⟩
  | true =>
    go_wp2_with fail
    clear hA0 hA1 hB0 hB1
    refine (RefSmall6_any p1 q1 c1 f1 s1 t1 200 (by decide) _ rfl _ h1 g1).mono ?_
    rintro e6 w6 ⟨rfl, hb6⟩
    have A := A.keep hb6
    have hA0 := A.c0
    have hA1 := A.c1
    have B := B.keep hb6
    have hB0 := B.c0
    have hB1 := B.c1
    have h0 := h0.keep hb6
    have g0 := g0.keep hb6
    have h1 := h1.keep hb6
    have g1 := g1.keep hb6
    have hb := below_t hb hb6
    clear hb6
    cases sb : smallX s1 t1 200 with
    | false =>
      go_wp2_with fail
      refine (again.out _ hb).mono ?_
      rintro e2 w2 ⟨rfl, hb2⟩
      go_wp2_with fail
      go_ret
      exact ⟨rfl, hb2⟩
    | true =>
      have FA := Lib.hid (smallX_few sa).2
      have LA := Lib.hid (smallX_few sa).1.1
      have LB := Lib.hid (smallX_few sb).1.1
      obtain ⟨n1, n2⟩ := near_NL LA.out FA.out.2.2.1
      have h5 := FA.out.2.1
      have N1 := Lib.hid n1
      have N2 := Lib.hid n2
      clear sa sb n1 n2 again
      go_wp2_with fail
      clear hA0 hA1 hB0 hB1
      refine (boxMinus_all p0 q0 p1 q1 c0 f0 c1 f1 s0 t0 s1 t1 N1.out N2.out h5 LA.out LB.out _ h0 g0 h1 g1).mono ?_
      rintro e7 w7 ⟨⟨gl, lc, bs, rfl, nl, nb, vb, -⟩, hb7⟩
      have A := A.keep hb7
      have hA0 := A.c0
      have hA1 := A.c1
      have B := B.keep hb7
      have hB0 := B.c0
      have hB1 := B.c1
      have h0 := h0.keep hb7
      have g0 := g0.keep hb7
      have h1 := h1.keep hb7
      have g1 := g1.keep hb7
      have hb := below_t hb hb7
      clear hb7
      go_wp2_with fail
      clear hA0 hA1 hB0 hB1
      refine (refMinus_is p0 q0 p1 q1 c0 f0 c1 f1 s0 t0 s1 t1 h5 LA.out LB.out _ h0 g0 h1 g1).mono ?_
      rintro e8 w8 ⟨⟨gd, dc, ds, rfl, nd, di, vd⟩, hb8⟩
      have nl := Lib.hid (nl.keep' hb8)
      have nd := Lib.hid nd
      have ld : bs.length = ds.length := by
        have := congrArg List.length (vb.trans vd.symm)
        rwa [List.length_map, List.length_map] at this
      have bi := Lib.hid (newsB_ints (nb.keep hb8) di (vb.trans vd.symm))
      have di := Lib.hid di
      have HBD := Lib.hid (vb.trans vd.symm)
      have VD := Lib.hid vd
      have LD := Lib.hid ld
      have hne : ((bs.length : Int) != (ds.length : Int)) = false := by simp [ld]
      have A := A.keep hb8
      have B := B.keep hb8
      have h0 := h0.keep hb8
      have g0 := g0.keep hb8
      have h1 := h1.keep hb8
      have g1 := g1.keep hb8
      have hb := below_t hb hb8
      clear hb8
      have hd10 : ds.length ≤ 10 := by
        have h1 := minus_len (ahi := t0) (blo := s1) (bhi := t1) h5
        rw [← VD.out, List.length_map] at h1
        exact h1
      have LL : Hid ((ds.map BoxV.bx).length = ds.length) := List.length_map ..
      have HT : Hid (lensS (ds.map BoxV.bx) ds.length ≤ 1000000 ∧ lensS (ds.map BoxV.bx) ds.length = hitS (ds.map BoxV.bx) (betX s0 t0) (betX s0 t0).length) := by
        have e := all_hit (alo := s0) (ahi := t0) (blo := s1) (bhi := t1) LA.out LB.out
        rw [← VD.out, LL.out] at e
        refine ⟨?_, e⟩
        have h2 := hitS_bd (alo := s0) (ahi := t0) (blo := s1) (bhi := t1) LA.out LB.out _ (Nat.le_refl _)
        rw [← VD.out] at h2
        have := bet_bound (most := 200) (by decide) (by decide) FA.out
        rw [e]
        omega
      clear ld vb vd nb
      go_wp2_with fail
      go_loopw [7, 8] (fun n i wr => ∃ (k : Nat) (nv : Int), k ≤ bs.length ∧ i = .int .i64 k ∧ n = .int .i64 nv ∧ Hid (nv = ((lensS (ds.map BoxV.bx) k : Nat) : Int)) ∧ Below w8.heap.size w8 wr) (fun _ i _ => bs.length - (intOf i).toNat)
      case atStart => exact ⟨0, 0, Nat.zero_le _, rfl, rfl, by simp [Hid, lensS], Below.refl _ _⟩
      case round =>
        obtain ⟨k, nv, hk, rfl, rfl, HNV, hbr⟩ := hrel
        by_cases hlt : k < bs.length
        · have hi1 : (k : Int) < (bs.length : Int) := by omega
          have hkd : k < ds.length := by have := LD.out; omega
          have hi2 : (k : Int) < (ds.length : Int) := by omega
          obtain ⟨b, hbk⟩ : ∃ b, bs[k]? = some b := ⟨_, List.getElem?_eq_getElem hlt⟩
          obtain ⟨d, hdk⟩ : ∃ d, ds[k]? = some d := ⟨_, List.getElem?_eq_getElem hkd⟩
          obtain ⟨gL, rfl, hgL, l0, l1⟩ := boxes_at (nl.out.keep' hbr) hbk
          obtain ⟨gD, rfl, hgD, d0, d1⟩ := boxes_at (nd.out.keep' hbr) hdk
          have hbd : b.bx = d.bx := by
            have h1 : (bs.map BoxV.bx)[k]? = some b.bx := by rw [List.getElem?_map, hbk]; rfl
            have h2 : (ds.map BoxV.bx)[k]? = some d.bx := by rw [List.getElem?_map, hdk]; rfl
            rw [HBD.out, h2] at h1
            injection h1 with h1
            exact h1.symm
          have HN : Hid (lensS (ds.map BoxV.bx) (k + 1) = lensS (ds.map BoxV.bx) k + (betX d.lo d.hi).length) := lensS_next (x := d.bx) (by rw [List.getElem?_map, hdk]; rfl)
          have HF : Hid (FewX d.lo d.hi 200) := part_few (x := d.bx) FA.out LB.out (by rw [← VD.out]; exact List.mem_map_of_mem (List.mem_of_getElem? hdk))
          have HLE : Hid (lensS (ds.map BoxV.bx) (k + 1) ≤ 1000000) := Nat.le_trans (by have := lensS_le (ds.map BoxV.bx) (k := k + 1) (by rw [LL.out]; omega); rwa [LL.out] at this) HT.out.1
          obtain ⟨i1, i2⟩ := bi.out b (List.mem_of_getElem? hbk)
          obtain ⟨j1, j2⟩ := di.out d (List.mem_of_getElem? hdk)
          obtain ⟨bp, bc, lo0, bq, bf, hi0⟩ := b
          obtain ⟨dp, dcc, lo, dq, df, hi⟩ := d
          obtain ⟨rfl, rfl⟩ : lo = lo0 ∧ hi = hi0 := bx_eq hbd
          have i1 : Hid (Ints wr bp lo) := i1.keep hbr
          have i2 : Hid (Ints wr bq hi) := i2.keep hbr
          have j1 : Hid (Ints wr dp lo) := j1.keep hbr
          have j2 : Hid (Ints wr dq hi) := j2.keep hbr
          dsimp only at l0 l1 d0 d1
          have hKS : Keeps (fun w' => (gL < w'.heap.size ∧ w'.cell? ⟨gL, k * 2, none⟩ = some (.slice bp lo.length bc)) ∧ (gL < w'.heap.size ∧ w'.cell? ⟨gL, k * 2 + 1, none⟩ = some (.slice bq hi.length bf)) ∧ (gD < w'.heap.size ∧ w'.cell? ⟨gD, k * 2, none⟩ = some (.slice dp lo.length dcc)) ∧ (gD < w'.heap.size ∧ w'.cell? ⟨gD, k * 2 + 1, none⟩ = some (.slice dq hi.length df)) ∧ Below wr.heap.size wr w') := (keeps_cell _ _ _).and ((keeps_cell _ _ _).and ((keeps_cell _ _ _).and ((keeps_cell _ _ _).and (keeps_below wr))))
          have hS : (fun w' => (gL < w'.heap.size ∧ w'.cell? ⟨gL, k * 2, none⟩ = some (.slice bp lo.length bc)) ∧ (gL < w'.heap.size ∧ w'.cell? ⟨gL, k * 2 + 1, none⟩ = some (.slice bq hi.length bf)) ∧ (gD < w'.heap.size ∧ w'.cell? ⟨gD, k * 2, none⟩ = some (.slice dp lo.length dcc)) ∧ (gD < w'.heap.size ∧ w'.cell? ⟨gD, k * 2 + 1, none⟩ = some (.slice dq hi.length df)) ∧ Below wr.heap.size wr w') wr := ⟨⟨hgL, l0⟩, ⟨hgL, l1⟩, ⟨hgD, d0⟩, ⟨hgD, d1⟩, Below.refl _ _⟩
          clear hbd hbk hdk
          go_upto_region 11 with fail
          refine wp_region_noPanic ?_
          refine wp_region_held_drew (S := (fun w' => (gL < w'.heap.size ∧ w'.cell? ⟨gL, k * 2, none⟩ = some (.slice bp lo.length bc)) ∧ (gL < w'.heap.size ∧ w'.cell? ⟨gL, k * 2 + 1, none⟩ = some (.slice bq hi.length bf)) ∧ (gD < w'.heap.size ∧ w'.cell? ⟨gD, k * 2, none⟩ = some (.slice dp lo.length dcc)) ∧ (gD < w'.heap.size ∧ w'.cell? ⟨gD, k * 2 + 1, none⟩ = some (.slice dq hi.length df)) ∧ Below wr.heap.size wr w')) (by kernel_rfl) ?_ (fun hHeld => ?_)
          · (try dsimp only); exact hKS _ _ (by first | exact hHeld | exact hS) (by first | assumption | (go_grown; done) | (refine from_drew ?_; go_grown; done))
          refine takeH 0 (some 43) (v := ?_) rfl rfl (by kernel_rfl) (by kernel_rfl) (by kernel_rfl) (by rfl) ?_ (by exact hHeld) ?_
          rotate_left
          · intro w hSw; (try dsimp only at hSw); go_simp; try (with_reducible rfl)
          try simp only [Act.put, List.setIfInBounds_toArray, List.set_cons_zero, List.set_cons_succ]
          refine takeH 1 (some 44) (v := ?_) rfl rfl (by kernel_rfl) (by kernel_rfl) (by kernel_rfl) (by rfl) ?_ (by exact hHeld) ?_
          rotate_left
          · intro w hSw; (try dsimp only at hSw); go_simp; try (with_reducible rfl)
          try simp only [Act.put, List.setIfInBounds_toArray, List.set_cons_zero, List.set_cons_succ]
          refine takeH 2 (some 45) (v := ?_) rfl rfl (by kernel_rfl) (by kernel_rfl) (by kernel_rfl) (by rfl) ?_ (by exact hHeld) ?_
          rotate_left
          · intro w hSw; (try dsimp only at hSw); go_simp; try (with_reducible rfl)
          try simp only [Act.put, List.setIfInBounds_toArray, List.set_cons_zero, List.set_cons_succ]
          refine takeH 3 (some 46) (v := ?_) rfl rfl (by kernel_rfl) (by kernel_rfl) (by kernel_rfl) (by rfl) ?_ (by exact hHeld) ?_
          rotate_left
          · intro w hSw; (try dsimp only at hSw); go_simp; try (with_reducible rfl)
          try simp only [Act.put, List.setIfInBounds_toArray, List.set_cons_zero, List.set_cons_succ]
          refine takeH 4 (some 47) (v := ?_) rfl rfl (by kernel_rfl) (by kernel_rfl) (by kernel_rfl) (by rfl) ?_ (by exact hHeld) ?_
          rotate_left
          · intro w hSw; (try dsimp only at hSw); go_simp; try (with_reducible rfl)
          try simp only [Act.put, List.setIfInBounds_toArray, List.set_cons_zero, List.set_cons_succ]
          refine takeH 5 (some 48) (v := ?_) rfl rfl (by kernel_rfl) (by kernel_rfl) (by kernel_rfl) (by rfl) ?_ (by exact hHeld) ?_
          rotate_left
          · intro w hSw; (try dsimp only at hSw); go_simp; try (with_reducible rfl)
          try simp only [Act.put, List.setIfInBounds_toArray, List.set_cons_zero, List.set_cons_succ]
          refine takeH 6 (some 49) (v := ?_) rfl rfl (by kernel_rfl) (by kernel_rfl) (by kernel_rfl) (by rfl) ?_ (by exact hHeld) ?_
          rotate_left
          · intro w hSw; (try dsimp only at hSw); go_simp; try (with_reducible rfl)
          try simp only [Act.put, List.setIfInBounds_toArray, List.set_cons_zero, List.set_cons_succ]
          refine takeH 7 (some 50) (v := ?_) rfl rfl (by kernel_rfl) (by kernel_rfl) (by kernel_rfl) (by rfl) ?_ (by exact hHeld) ?_
          rotate_left
          · intro w hSw; (try dsimp only at hSw); go_simp; try (with_reducible rfl)
          try simp only [Act.put, List.setIfInBounds_toArray, List.set_cons_zero, List.set_cons_succ]
          refine wpAnyH_ready (rs := [8]) (by kernel_rfl) (by simp) ?_
          refine stepH 8 rfl (by rfl) (fun K hK => ?_) ?_
          · go_simp
            ((with_reducible refine (refSame_is bp bq dp dq bc bf dcc df lo hi _ ?_ ?_ ?_ ?_).mono ?_); (exact i1.out.keep hHeld.2.2.2.2); (exact i2.out.keep hHeld.2.2.2.2); (exact j1.out.keep hHeld.2.2.2.2); (exact j2.out.keep hHeld.2.2.2.2); rintro e9 w9 ⟨rfl, hb9⟩)
            refine hK.out _ _ ?_ (fun hNew => ?_)
            · (try dsimp only); exact hKS _ _ (by first | exact hHeld | exact hS) (by first | assumption | (go_grown; done) | (refine from_drew ?_; go_grown; done))
            clear hK K hHeld
            have hHeld := hNew
            clear hNew
            try dsimp only at hHeld
            try simp only [Act.put, List.setIfInBounds_toArray, List.set_cons_zero, List.set_cons_succ]
            refine takeH 9 (some 52) (v := ?_) rfl rfl (by kernel_rfl) (by kernel_rfl) (by kernel_rfl) (by rfl) ?_ (by exact hHeld) ?_
            rotate_left
            · intro w hSw; (try dsimp only at hSw); go_simp; try (with_reducible rfl)
            try simp only [Act.put, List.setIfInBounds_toArray, List.set_cons_zero, List.set_cons_succ]
            refine wpAnyH_done (by kernel_rfl) ?_ _
            refine NoPanic.normal ?_
            have d0 := hHeld.2.2.1.2
            have d1 := hHeld.2.2.2.1.2
            have hbz := hHeld.2.2.2.2
            clear hHeld hS hKS l0 l1
            go_wp2_with fail
            refine (RefCells6_any dp dq dcc df lo hi 200 (by decide) (by decide) HF.out _ (j1.out.keep hbz) (j2.out.keep hbz)).mono ?_
            rintro e10 w10 ⟨⟨rp, rc, rs, rfl, hro, hrv⟩, hb10⟩
            have hrl : rs.length = (betX lo hi).length := by rw [← hrv, List.length_map]
            have HR : Hid (nv + (rs.length : Int) = ((lensS (ds.map BoxV.bx) (k + 1) : Nat) : Int)) := by (rw [Hid, HN.out, HNV.out, hrl]; push_cast; rfl)
            have hr64 : 0 ≤ nv + (rs.length : Int) ∧ nv + (rs.length : Int) ≤ 1000000 := by (have h1 := HR.out; have h2 := HLE.out; omega)
            have hbf := below_t hbr (below_t hbz hb10)
            clear hro hrv hrl d0 d1
            go_wp2_with fail
            go_roundw
            case rel => exact ⟨k + 1, _, by omega, by go_num, rfl, HR, hbf⟩
            case measure => simp [intOf]; omega
          exact AllReadyH.nil
        · have hi1 : ¬ (k : Int) < (bs.length : Int) := by omega
          have hkd : k = ds.length := by have := LD.out; omega
          have LS : Hid (nv = ((lensS (ds.map BoxV.bx) ds.length : Nat) : Int)) := by rw [Hid, HNV.out, hkd]
          have nd := Lib.hid (nd.out.keep' hbr)
          have dI : Hid (BoxesI wr ds) := fun x hx => ⟨(di.out x hx).1.keep hbr, (di.out x hx).2.keep hbr⟩
          have A := A.keep hbr
          have hA0 := A.c0
          have hA1 := A.c1
          have B := B.keep hbr
          have h0 := h0.keep hbr
          have g0 := g0.keep hbr
          have h1 := h1.keep hbr
          have g1 := g1.keep hbr
          have hb := below_t hb hbr
          clear hbr
          go_wp2_with fail
          clear hA0 hA1
          refine (RefCells6_any p0 q0 c0 f0 s0 t0 200 (by decide) (by decide) FA.out _ h0 g0).mono ?_
          rintro e9 w9 ⟨⟨rp, rc, rs, rfl, hro, hrv⟩, hb9⟩
          have nd := Lib.hid (nd.out.keep' hb9)
          have dI : Hid (BoxesI w9 ds) := fun x hx => ⟨(dI.out x hx).1.keep hb9, (dI.out x hx).2.keep hb9⟩
          have A := A.keep hb9
          have B := B.keep hb9
          have h0 := h0.keep hb9
          have g0 := g0.keep hb9
          have h1 := h1.keep hb9
          have g1 := g1.keep hb9
          have hb := below_t hb hb9
          clear hb9
          have hrl : rs.length = (betX s0 t0).length := by rw [← hrv, List.length_map]
          have HRL := Lib.hid hrl
          have hrs1 : rs.length ≤ 1000000 := by rw [hrl]; exact bet_bound (most := 200) (by decide) (by decide) FA.out
          have HRV := Lib.hid hrv
          clear di bi nl hne hrl hrv HNV hlt hi1 hk
          go_wp2_with fail
          go_loopw [7, 10] (fun n i wr => ∃ (k : Nat) (nv : Int), k ≤ rs.length ∧ i = .int .i64 k ∧ n = .int .i64 nv ∧ Hid (nv = ((lensS (ds.map BoxV.bx) ds.length : Nat) : Int) - ((hitS (ds.map BoxV.bx) (betX s0 t0) k : Nat) : Int)) ∧ Below w9.heap.size w9 wr) (fun _ i _ => rs.length - (intOf i).toNat)
          case atStart => exact ⟨0, nv, Nat.zero_le _, rfl, rfl, by (rw [Hid, LS.out]; simp [hitS]), Below.refl _ _⟩
          case round =>
            clear LS
            rename Int => nv0
            obtain ⟨k, nv, hk, rfl, rfl, HNV, hbw⟩ := hrel
            by_cases hlt : k < rs.length
            · have hi1 : (k : Int) < (rs.length : Int) := by omega
              obtain ⟨x, hxk⟩ : ∃ x, rs[k]? = some x := ⟨_, List.getElem?_eq_getElem hlt⟩
              have hmem : (betX s0 t0)[k]? = some x.v := by rw [← HRV.out, List.getElem?_map, hxk]; rfl
              obtain ⟨⟨bC, rfl, hbC, cC⟩, nw⟩ := hro.at hxk
              have hin : InX s0 t0 x.v := (bet_mem (by have := LA.out; omega)).1 (List.mem_of_getElem? hmem)
              have xi := nw.ints (in_i64 hin N1.out N2.out LA.out) (by show x.v.length ≤ _; rw [hin.1]; omega)
              have HNX := Lib.hid (hitS_next (L := ds.map BoxV.bx) hmem)
              have HON := Lib.hid (minus_once (alo := s0) (ahi := t0) (blo := s1) (bhi := t1) LA.out LB.out (List.mem_of_getElem? hmem))
              obtain ⟨xp, xc, xv⟩ := x
              rename World => W2
              have cC := (hbw.cell (p := ⟨bC, k, none⟩) hbC).trans cC
              have xi : Hid (Ints W2 xp xv) := xi.keep hbw
              have hbC2 : bC < W2.heap.size := by have := hbw.size; omega
              dsimp only at cC
              clear hmem nw hin hxk hbC
              go_wp2_with fail
              go_loopw [11, 12] (fun m i wz => ∃ (j : Nat) (mv : Int), j ≤ ds.length ∧ i = .int .i64 j ∧ m = .int .i64 mv ∧ Hid (mv = ((cntS (ds.map BoxV.bx) xv j : Nat) : Int)) ∧ Below W2.heap.size W2 wz) (fun _ i _ => ds.length - (intOf i).toNat)
              case atStart => exact ⟨0, 0, Nat.zero_le _, rfl, rfl, by simp [Hid, cntS], Below.refl _ _⟩
              case round =>
                obtain ⟨j, mv, hj, rfl, rfl, HMV, hb2⟩ := hrel
                have cC := (hb2.cell (p := ⟨bC, k, none⟩) hbC2).trans cC
                have xi : Hid (Ints wr xp xv) := xi.out.keep hb2
                have hbw := below_t hbw hb2
                have hbC3 : bC < wr.heap.size := by have := hb2.size; omega
                by_cases hjl : j < ds.length
                · have hi2 : (j : Int) < (ds.length : Int) := by omega
                  obtain ⟨d, hdk⟩ : ∃ d, ds[j]? = some d := ⟨_, List.getElem?_eq_getElem hjl⟩
                  obtain ⟨gD, rfl, hgD, d0, d1⟩ := boxes_at (nd.out.keep' hbw) hdk
                  obtain ⟨j1, j2⟩ := dI.out d (List.mem_of_getElem? hdk)
                  have HCN : Hid (cntS (ds.map BoxV.bx) xv (j + 1) = cntS (ds.map BoxV.bx) xv j + if inX d.lo d.hi xv then 1 else 0) := cntS_next (x := d.bx) (by rw [List.getElem?_map, hdk]; rfl)
                  have hle : Hid (d.lo.length ≤ d.hi.length) := by
                    have := (part_few (x := d.bx) (m := 200) FA.out LB.out (by rw [← VD.out]; exact List.mem_map_of_mem (List.mem_of_getElem? hdk))).1
                    exact Nat.le_of_eq this
                  have hm10 : 0 ≤ mv ∧ mv ≤ 10 := by have h1 := HMV.out; have h2 := cntS_le (L := ds.map BoxV.bx) (r := xv) (j := j); omega
                  obtain ⟨dp, dcc, lo, dq, df, hi⟩ := d
                  obtain ⟨z, HZ⟩ : ∃ z, Hid (inX lo hi xv = z) := ⟨_, rfl⟩
                  have j1 : Hid (Ints wr dp lo) := j1.keep hbw
                  have j2 : Hid (Ints wr dq hi) := j2.keep hbw
                  dsimp only at d0 d1
                  have hKS : Keeps (fun w' => (gD < w'.heap.size ∧ w'.cell? ⟨gD, j * 2, none⟩ = some (.slice dp lo.length dcc)) ∧ (gD < w'.heap.size ∧ w'.cell? ⟨gD, j * 2 + 1, none⟩ = some (.slice dq hi.length df)) ∧ (bC < w'.heap.size ∧ w'.cell? ⟨bC, k, none⟩ = some (.slice xp xv.length xc)) ∧ Below wr.heap.size wr w') := (keeps_cell _ _ _).and ((keeps_cell _ _ _).and ((keeps_cell _ _ _).and (keeps_below wr)))
                  have hS : (fun w' => (gD < w'.heap.size ∧ w'.cell? ⟨gD, j * 2, none⟩ = some (.slice dp lo.length dcc)) ∧ (gD < w'.heap.size ∧ w'.cell? ⟨gD, j * 2 + 1, none⟩ = some (.slice dq hi.length df)) ∧ (bC < w'.heap.size ∧ w'.cell? ⟨bC, k, none⟩ = some (.slice xp xv.length xc)) ∧ Below wr.heap.size wr w') wr := ⟨⟨hgD, d0⟩, ⟨hgD, d1⟩, ⟨hbC3, cC⟩, Below.refl _ _⟩
                  clear hdk
                  go_upto_region 22 with fail
                  refine wp_region_noPanic ?_
                  refine wp_region_held_drew (S := (fun w' => (gD < w'.heap.size ∧ w'.cell? ⟨gD, j * 2, none⟩ = some (.slice dp lo.length dcc)) ∧ (gD < w'.heap.size ∧ w'.cell? ⟨gD, j * 2 + 1, none⟩ = some (.slice dq hi.length df)) ∧ (bC < w'.heap.size ∧ w'.cell? ⟨bC, k, none⟩ = some (.slice xp xv.length xc)) ∧ Below wr.heap.size wr w')) (by kernel_rfl) ?_ (fun hHeld => ?_)
                  · (try dsimp only); exact hKS _ _ (by first | exact hHeld | exact hS) (by first | assumption | (go_grown; done) | (refine from_drew ?_; go_grown; done))
                  refine takeH 0 (some 75) (v := ?_) rfl rfl (by kernel_rfl) (by kernel_rfl) (by kernel_rfl) (by rfl) ?_ (by exact hHeld) ?_
                  rotate_left
                  · intro w hSw; (try dsimp only at hSw); go_simp; try (with_reducible rfl)
                  try simp only [Act.put, List.setIfInBounds_toArray, List.set_cons_zero, List.set_cons_succ]
                  refine takeH 1 (some 76) (v := ?_) rfl rfl (by kernel_rfl) (by kernel_rfl) (by kernel_rfl) (by rfl) ?_ (by exact hHeld) ?_
                  rotate_left
                  · intro w hSw; (try dsimp only at hSw); go_simp; try (with_reducible rfl)
                  try simp only [Act.put, List.setIfInBounds_toArray, List.set_cons_zero, List.set_cons_succ]
                  refine takeH 2 (some 77) (v := ?_) rfl rfl (by kernel_rfl) (by kernel_rfl) (by kernel_rfl) (by rfl) ?_ (by exact hHeld) ?_
                  rotate_left
                  · intro w hSw; (try dsimp only at hSw); go_simp; try (with_reducible rfl)
                  try simp only [Act.put, List.setIfInBounds_toArray, List.set_cons_zero, List.set_cons_succ]
                  refine takeH 3 (some 78) (v := ?_) rfl rfl (by kernel_rfl) (by kernel_rfl) (by kernel_rfl) (by rfl) ?_ (by exact hHeld) ?_
                  rotate_left
                  · intro w hSw; (try dsimp only at hSw); go_simp; try (with_reducible rfl)
                  try simp only [Act.put, List.setIfInBounds_toArray, List.set_cons_zero, List.set_cons_succ]
                  refine takeH 4 (some 79) (v := ?_) rfl rfl (by kernel_rfl) (by kernel_rfl) (by kernel_rfl) (by rfl) ?_ (by exact hHeld) ?_
                  rotate_left
                  · intro w hSw; (try dsimp only at hSw); go_simp; try (with_reducible rfl)
                  try simp only [Act.put, List.setIfInBounds_toArray, List.set_cons_zero, List.set_cons_succ]
                  refine takeH 5 (some 80) (v := ?_) rfl rfl (by kernel_rfl) (by kernel_rfl) (by kernel_rfl) (by rfl) ?_ (by exact hHeld) ?_
                  rotate_left
                  · intro w hSw; (try dsimp only at hSw); go_simp; try (with_reducible rfl)
                  try simp only [Act.put, List.setIfInBounds_toArray, List.set_cons_zero, List.set_cons_succ]
                  refine takeH 6 (some 81) (v := ?_) rfl rfl (by kernel_rfl) (by kernel_rfl) (by kernel_rfl) (by rfl) ?_ (by exact hHeld) ?_
                  rotate_left
                  · intro w hSw; (try dsimp only at hSw); go_simp; try (with_reducible rfl)
                  try simp only [Act.put, List.setIfInBounds_toArray, List.set_cons_zero, List.set_cons_succ]
                  refine takeH 7 (some 82) (v := ?_) rfl rfl (by kernel_rfl) (by kernel_rfl) (by kernel_rfl) (by rfl) ?_ (by exact hHeld) ?_
                  rotate_left
                  · intro w hSw; (try dsimp only at hSw); go_simp; try (with_reducible rfl)
                  try simp only [Act.put, List.setIfInBounds_toArray, List.set_cons_zero, List.set_cons_succ]
                  refine wpAnyH_ready (rs := [8]) (by kernel_rfl) (by simp) ?_
                  refine stepH 8 rfl (by rfl) (fun K hK => ?_) ?_
                  · go_simp
                    ((with_reducible refine (refHas_is dp dq xp dcc df xc lo hi xv z HZ.out ?_ _ ?_ ?_ ?_).mono ?_); (exact hle.out); (exact j1.out.keep hHeld.2.2.2); (exact j2.out.keep hHeld.2.2.2); (exact xi.out.keep hHeld.2.2.2); rintro e10 w10 ⟨rfl, hb10⟩)
                    refine hK.out _ _ ?_ (fun hNew => ?_)
                    · (try dsimp only); exact hKS _ _ (by first | exact hHeld | exact hS) (by first | assumption | (go_grown; done) | (refine from_drew ?_; go_grown; done))
                    clear hK K hHeld
                    have hHeld := hNew
                    clear hNew
                    try dsimp only at hHeld
                    try simp only [Act.put, List.setIfInBounds_toArray, List.set_cons_zero, List.set_cons_succ]
                    refine wpAnyH_done (by kernel_rfl) ?_ _
                    refine NoPanic.normal ?_
                    have hbz := hHeld.2.2.2
                    have hbf := below_t hb2 hbz
                    clear hHeld hS hKS d0 d1 cC
                    cases z with
                    | true =>
                      have HR : Hid (mv + 1 = ((cntS (ds.map BoxV.bx) xv (j + 1) : Nat) : Int)) := by (rw [Hid, HCN.out, HMV.out, HZ.out]; simp)
                      go_wp2_with fail
                      go_roundw
                      case rel => exact ⟨j + 1, _, by omega, by go_num, rfl, HR, hbf⟩
                      case measure => simp [intOf]; omega
                    | false =>
                      have HR : Hid (mv = ((cntS (ds.map BoxV.bx) xv (j + 1) : Nat) : Int)) := by (rw [Hid, HCN.out, HMV.out, HZ.out]; simp)
                      go_wp2_with fail
                      go_roundw
                      case rel => exact ⟨j + 1, _, by omega, by go_num, rfl, HR, hbf⟩
                      case measure => simp [intOf]; omega
                  exact AllReadyH.nil
                · have hi2 : ¬ (j : Int) < (ds.length : Int) := by omega
                  have hcnt : mv = (((ds.map BoxV.bx).countP (inB xv) : Nat) : Int) := by rw [HMV.out, cntS_all (by rw [LL.out]; omega)]
                  have hon := HON.out
                  rw [← VD.out] at hon
                  try dsimp only at hon
                  have hnx := HNX.out
                  try dsimp only at hnx
                  have hnv := HNV.out
                  have hh1 := hitS_le (ds.map BoxV.bx) (betX s0 t0) (k := k + 1) (by have := HRL.out; omega)
                  have hh2 := HT.out
                  have B := B.keep hbw
                  have h1 := h1.keep hbw
                  have g1 := g1.keep hbw
                  have hB0 := B.c0
                  have hB1 := B.c1
                  have hKS : Keeps (fun w' => (gB < w'.heap.size ∧ w'.cell? ⟨gB, 0, none⟩ = some (.slice p1 s1.length c1)) ∧ (gB < w'.heap.size ∧ w'.cell? ⟨gB, 1, none⟩ = some (.slice q1 t1.length f1)) ∧ (bC < w'.heap.size ∧ w'.cell? ⟨bC, k, none⟩ = some (.slice xp xv.length xc)) ∧ Below wr.heap.size wr w') := (keeps_cell _ _ _).and ((keeps_cell _ _ _).and ((keeps_cell _ _ _).and (keeps_below wr)))
                  have hS : (fun w' => (gB < w'.heap.size ∧ w'.cell? ⟨gB, 0, none⟩ = some (.slice p1 s1.length c1)) ∧ (gB < w'.heap.size ∧ w'.cell? ⟨gB, 1, none⟩ = some (.slice q1 t1.length f1)) ∧ (bC < w'.heap.size ∧ w'.cell? ⟨bC, k, none⟩ = some (.slice xp xv.length xc)) ∧ Below wr.heap.size wr w') wr := ⟨⟨B.own.lt, B.c0⟩, ⟨B.own.lt, B.c1⟩, ⟨hbC3, cC⟩, Below.refl _ _⟩
                  cases hzb : inX s1 t1 xv with
                  | true =>
                    have HZB := Lib.hid hzb
                    rw [hzb, if_pos rfl] at hon
                    obtain rfl : mv = 0 := by omega
                    have HNEXT : Hid (nv = ((lensS (ds.map BoxV.bx) ds.length : Nat) : Int) - ((hitS (ds.map BoxV.bx) (betX s0 t0) (k + 1) : Nat) : Int)) := by rw [Hid]; omega
                    have hn64 : 0 ≤ nv ∧ nv ≤ 1000000 := by omega
                    clear hcnt hon hnx hnv hh1 hh2 hzb hB0 hB1
                    go_upto_region 24 with fail
                    refine wp_region_noPanic ?_
                    refine wp_region_held_drew (S := (fun w' => (gB < w'.heap.size ∧ w'.cell? ⟨gB, 0, none⟩ = some (.slice p1 s1.length c1)) ∧ (gB < w'.heap.size ∧ w'.cell? ⟨gB, 1, none⟩ = some (.slice q1 t1.length f1)) ∧ (bC < w'.heap.size ∧ w'.cell? ⟨bC, k, none⟩ = some (.slice xp xv.length xc)) ∧ Below wr.heap.size wr w')) (by kernel_rfl) ?_ (fun hHeld => ?_)
                    · (try dsimp only); exact hKS _ _ (by first | exact hHeld | exact hS) (by first | assumption | (go_grown; done) | (refine from_drew ?_; go_grown; done))
                    refine takeH 0 (some 86) (v := ?_) rfl rfl (by kernel_rfl) (by kernel_rfl) (by kernel_rfl) (by rfl) ?_ (by exact hHeld) ?_
                    rotate_left
                    · intro w hSw; (try dsimp only at hSw); go_simp; try (with_reducible rfl)
                    try simp only [Act.put, List.setIfInBounds_toArray, List.set_cons_zero, List.set_cons_succ]
                    refine takeH 1 (some 87) (v := ?_) rfl rfl (by kernel_rfl) (by kernel_rfl) (by kernel_rfl) (by rfl) ?_ (by exact hHeld) ?_
                    rotate_left
                    · intro w hSw; (try dsimp only at hSw); go_simp; try (with_reducible rfl)
                    try simp only [Act.put, List.setIfInBounds_toArray, List.set_cons_zero, List.set_cons_succ]
                    refine takeH 2 (some 88) (v := ?_) rfl rfl (by kernel_rfl) (by kernel_rfl) (by kernel_rfl) (by rfl) ?_ (by exact hHeld) ?_
                    rotate_left
                    · intro w hSw; (try dsimp only at hSw); go_simp; try (with_reducible rfl)
                    try simp only [Act.put, List.setIfInBounds_toArray, List.set_cons_zero, List.set_cons_succ]
                    refine takeH 3 (some 89) (v := ?_) rfl rfl (by kernel_rfl) (by kernel_rfl) (by kernel_rfl) (by rfl) ?_ (by exact hHeld) ?_
                    rotate_left
                    · intro w hSw; (try dsimp only at hSw); go_simp; try (with_reducible rfl)
                    try simp only [Act.put, List.setIfInBounds_toArray, List.set_cons_zero, List.set_cons_succ]
                    refine takeH 4 (some 90) (v := ?_) rfl rfl (by kernel_rfl) (by kernel_rfl) (by kernel_rfl) (by rfl) ?_ (by exact hHeld) ?_
                    rotate_left
                    · intro w hSw; (try dsimp only at hSw); go_simp; try (with_reducible rfl)
                    try simp only [Act.put, List.setIfInBounds_toArray, List.set_cons_zero, List.set_cons_succ]
                    refine takeH 5 (some 91) (v := ?_) rfl rfl (by kernel_rfl) (by kernel_rfl) (by kernel_rfl) (by rfl) ?_ (by exact hHeld) ?_
                    rotate_left
                    · intro w hSw; (try dsimp only at hSw); go_simp; try (with_reducible rfl)
                    try simp only [Act.put, List.setIfInBounds_toArray, List.set_cons_zero, List.set_cons_succ]
                    refine takeH 6 (some 92) (v := ?_) rfl rfl (by kernel_rfl) (by kernel_rfl) (by kernel_rfl) (by rfl) ?_ (by exact hHeld) ?_
                    rotate_left
                    · intro w hSw; (try dsimp only at hSw); go_simp; try (with_reducible rfl)
                    try simp only [Act.put, List.setIfInBounds_toArray, List.set_cons_zero, List.set_cons_succ]
                    refine wpAnyH_ready (rs := [7]) (by kernel_rfl) (by simp) ?_
                    refine stepH 7 rfl (by rfl) (fun K hK => ?_) ?_
                    · go_simp
                      ((with_reducible refine (refHas_is p1 q1 xp c1 f1 xc s1 t1 xv true HZB.out ?_ _ ?_ ?_ ?_).mono ?_); (have := LB.out; omega); (exact h1.keep hHeld.2.2.2); (exact g1.keep hHeld.2.2.2); (exact xi.out.keep hHeld.2.2.2); rintro e11 w11 ⟨rfl, hb11⟩)
                      refine hK.out _ _ ?_ (fun hNew => ?_)
                      · (try dsimp only); exact hKS _ _ (by first | exact hHeld | exact hS) (by first | assumption | (go_grown; done) | (refine from_drew ?_; go_grown; done))
                      clear hK K hHeld
                      have hHeld := hNew
                      clear hNew
                      try dsimp only at hHeld
                      try simp only [Act.put, List.setIfInBounds_toArray, List.set_cons_zero, List.set_cons_succ]
                      refine takeH 8 (some 94) (v := ?_) rfl rfl (by kernel_rfl) (by kernel_rfl) (by kernel_rfl) (by rfl) ?_ (by exact hHeld) ?_
                      rotate_left
                      · intro w hSw; (try dsimp only at hSw); go_simp; try (with_reducible rfl)
                      try simp only [Act.put, List.setIfInBounds_toArray, List.set_cons_zero, List.set_cons_succ]
                      refine takeH 9 (some 95) (v := ?_) rfl rfl (by kernel_rfl) (by kernel_rfl) (by kernel_rfl) (by rfl) ?_ (by exact hHeld) ?_
                      rotate_left
                      · intro w hSw; (try dsimp only at hSw); go_simp; try (with_reducible rfl)
                      try simp only [Act.put, List.setIfInBounds_toArray, List.set_cons_zero, List.set_cons_succ]
                      refine takeH 10 (some 96) (v := ?_) rfl rfl (by kernel_rfl) (by kernel_rfl) (by kernel_rfl) (by rfl) ?_ (by exact hHeld) ?_
                      rotate_left
                      · intro w hSw; (try dsimp only at hSw); go_simp; try (with_reducible rfl)
                      try simp only [Act.put, List.setIfInBounds_toArray, List.set_cons_zero, List.set_cons_succ]
                      refine takeH 11 (some 97) (v := ?_) rfl rfl (by kernel_rfl) (by kernel_rfl) (by kernel_rfl) (by rfl) ?_ (by exact hHeld) ?_
                      rotate_left
                      · intro w hSw; (try dsimp only at hSw); go_simp; try (with_reducible rfl)
                      try simp only [Act.put, List.setIfInBounds_toArray, List.set_cons_zero, List.set_cons_succ]
                      refine takeH 12 (some 98) (v := ?_) rfl rfl (by kernel_rfl) (by kernel_rfl) (by kernel_rfl) (by rfl) ?_ (by exact hHeld) ?_
                      rotate_left
                      · intro w hSw; (try dsimp only at hSw); go_simp; try (with_reducible rfl)
                      try simp only [Act.put, List.setIfInBounds_toArray, List.set_cons_zero, List.set_cons_succ]
                      refine wpAnyH_done (by kernel_rfl) ?_ _
                      refine NoPanic.normal ?_
                      have hbz := hHeld.2.2.2
                      have hbf := below_t hbw hbz
                      clear hHeld hS hKS
                      go_wp2_with fail
                      go_roundw
                      case rel => exact ⟨k + 1, _, by omega, by go_num, rfl, HNEXT, hbf⟩
                      case measure => simp [intOf]; omega
                    exact AllReadyH.nil
                  | false =>
                    have HZB := Lib.hid hzb
                    rw [hzb, if_neg (by simp)] at hon
                    obtain rfl : mv = 1 := by omega
                    have HNEXT : Hid (nv - 1 = ((lensS (ds.map BoxV.bx) ds.length : Nat) : Int) - ((hitS (ds.map BoxV.bx) (betX s0 t0) (k + 1) : Nat) : Int)) := by rw [Hid]; omega
                    have hn64 : 0 ≤ nv - 1 ∧ nv - 1 ≤ 1000000 := by omega
                    clear hcnt hon hnx hnv hh1 hh2 hzb hB0 hB1
                    go_upto_region 24 with fail
                    refine wp_region_noPanic ?_
                    refine wp_region_held_drew (S := (fun w' => (gB < w'.heap.size ∧ w'.cell? ⟨gB, 0, none⟩ = some (.slice p1 s1.length c1)) ∧ (gB < w'.heap.size ∧ w'.cell? ⟨gB, 1, none⟩ = some (.slice q1 t1.length f1)) ∧ (bC < w'.heap.size ∧ w'.cell? ⟨bC, k, none⟩ = some (.slice xp xv.length xc)) ∧ Below wr.heap.size wr w')) (by kernel_rfl) ?_ (fun hHeld => ?_)
                    · (try dsimp only); exact hKS _ _ (by first | exact hHeld | exact hS) (by first | assumption | (go_grown; done) | (refine from_drew ?_; go_grown; done))
                    refine takeH 0 (some 86) (v := ?_) rfl rfl (by kernel_rfl) (by kernel_rfl) (by kernel_rfl) (by rfl) ?_ (by exact hHeld) ?_
                    rotate_left
                    · intro w hSw; (try dsimp only at hSw); go_simp; try (with_reducible rfl)
                    try simp only [Act.put, List.setIfInBounds_toArray, List.set_cons_zero, List.set_cons_succ]
                    refine takeH 1 (some 87) (v := ?_) rfl rfl (by kernel_rfl) (by kernel_rfl) (by kernel_rfl) (by rfl) ?_ (by exact hHeld) ?_
                    rotate_left
                    · intro w hSw; (try dsimp only at hSw); go_simp; try (with_reducible rfl)
                    try simp only [Act.put, List.setIfInBounds_toArray, List.set_cons_zero, List.set_cons_succ]
                    refine takeH 2 (some 88) (v := ?_) rfl rfl (by kernel_rfl) (by kernel_rfl) (by kernel_rfl) (by rfl) ?_ (by exact hHeld) ?_
                    rotate_left
                    · intro w hSw; (try dsimp only at hSw); go_simp; try (with_reducible rfl)
                    try simp only [Act.put, List.setIfInBounds_toArray, List.set_cons_zero, List.set_cons_succ]
                    refine takeH 3 (some 89) (v := ?_) rfl rfl (by kernel_rfl) (by kernel_rfl) (by kernel_rfl) (by rfl) ?_ (by exact hHeld) ?_
                    rotate_left
                    · intro w hSw; (try dsimp only at hSw); go_simp; try (with_reducible rfl)
                    try simp only [Act.put, List.setIfInBounds_toArray, List.set_cons_zero, List.set_cons_succ]
                    refine takeH 4 (some 90) (v := ?_) rfl rfl (by kernel_rfl) (by kernel_rfl) (by kernel_rfl) (by rfl) ?_ (by exact hHeld) ?_
                    rotate_left
                    · intro w hSw; (try dsimp only at hSw); go_simp; try (with_reducible rfl)
                    try simp only [Act.put, List.setIfInBounds_toArray, List.set_cons_zero, List.set_cons_succ]
                    refine takeH 5 (some 91) (v := ?_) rfl rfl (by kernel_rfl) (by kernel_rfl) (by kernel_rfl) (by rfl) ?_ (by exact hHeld) ?_
                    rotate_left
                    · intro w hSw; (try dsimp only at hSw); go_simp; try (with_reducible rfl)
                    try simp only [Act.put, List.setIfInBounds_toArray, List.set_cons_zero, List.set_cons_succ]
                    refine takeH 6 (some 92) (v := ?_) rfl rfl (by kernel_rfl) (by kernel_rfl) (by kernel_rfl) (by rfl) ?_ (by exact hHeld) ?_
                    rotate_left
                    · intro w hSw; (try dsimp only at hSw); go_simp; try (with_reducible rfl)
                    try simp only [Act.put, List.setIfInBounds_toArray, List.set_cons_zero, List.set_cons_succ]
                    refine wpAnyH_ready (rs := [7]) (by kernel_rfl) (by simp) ?_
                    refine stepH 7 rfl (by rfl) (fun K hK => ?_) ?_
                    · go_simp
                      ((with_reducible refine (refHas_is p1 q1 xp c1 f1 xc s1 t1 xv false HZB.out ?_ _ ?_ ?_ ?_).mono ?_); (have := LB.out; omega); (exact h1.keep hHeld.2.2.2); (exact g1.keep hHeld.2.2.2); (exact xi.out.keep hHeld.2.2.2); rintro e11 w11 ⟨rfl, hb11⟩)
                      refine hK.out _ _ ?_ (fun hNew => ?_)
                      · (try dsimp only); exact hKS _ _ (by first | exact hHeld | exact hS) (by first | assumption | (go_grown; done) | (refine from_drew ?_; go_grown; done))
                      clear hK K hHeld
                      have hHeld := hNew
                      clear hNew
                      try dsimp only at hHeld
                      try simp only [Act.put, List.setIfInBounds_toArray, List.set_cons_zero, List.set_cons_succ]
                      refine takeH 8 (some 94) (v := ?_) rfl rfl (by kernel_rfl) (by kernel_rfl) (by kernel_rfl) (by rfl) ?_ (by exact hHeld) ?_
                      rotate_left
                      · intro w hSw; (try dsimp only at hSw); go_simp; try (with_reducible rfl)
                      try simp only [Act.put, List.setIfInBounds_toArray, List.set_cons_zero, List.set_cons_succ]
                      refine takeH 9 (some 95) (v := ?_) rfl rfl (by kernel_rfl) (by kernel_rfl) (by kernel_rfl) (by rfl) ?_ (by exact hHeld) ?_
                      rotate_left
                      · intro w hSw; (try dsimp only at hSw); go_simp; try (with_reducible rfl)
                      try simp only [Act.put, List.setIfInBounds_toArray, List.set_cons_zero, List.set_cons_succ]
                      refine takeH 10 (some 96) (v := ?_) rfl rfl (by kernel_rfl) (by kernel_rfl) (by kernel_rfl) (by rfl) ?_ (by exact hHeld) ?_
                      rotate_left
                      · intro w hSw; (try dsimp only at hSw); go_simp; try (with_reducible rfl)
                      try simp only [Act.put, List.setIfInBounds_toArray, List.set_cons_zero, List.set_cons_succ]
                      refine takeH 11 (some 97) (v := ?_) rfl rfl (by kernel_rfl) (by kernel_rfl) (by kernel_rfl) (by rfl) ?_ (by exact hHeld) ?_
                      rotate_left
                      · intro w hSw; (try dsimp only at hSw); go_simp; try (with_reducible rfl)
                      try simp only [Act.put, List.setIfInBounds_toArray, List.set_cons_zero, List.set_cons_succ]
                      refine takeH 12 (some 98) (v := ?_) rfl rfl (by kernel_rfl) (by kernel_rfl) (by kernel_rfl) (by rfl) ?_ (by exact hHeld) ?_
                      rotate_left
                      · intro w hSw; (try dsimp only at hSw); go_simp; try (with_reducible rfl)
                      try simp only [Act.put, List.setIfInBounds_toArray, List.set_cons_zero, List.set_cons_succ]
                      refine wpAnyH_done (by kernel_rfl) ?_ _
                      refine NoPanic.normal ?_
                      have hbz := hHeld.2.2.2
                      have hbf := below_t hbw hbz
                      clear hHeld hS hKS
                      go_wp2_with fail
                      go_roundw
                      case rel => exact ⟨k + 1, _, by omega, by go_num, rfl, HNEXT, hbf⟩
                      case measure => simp [intOf]; omega
                    exact AllReadyH.nil
            · have hi1 : ¬ (k : Int) < (rs.length : Int) := by omega
              have hn0 : nv = 0 := by
                have h1 := HNV.out
                have h2 := HT.out.2
                have e : k = (betX s0 t0).length := by have := HRL.out; omega
                rw [e] at h1
                omega
              subst hn0
              have hbf := below_t hb hbw
              go_wp2_with fail
              go_ret
              exact ⟨rfl, hbf⟩
end Go.Proofs.Ythkfjdhakbjllaa
