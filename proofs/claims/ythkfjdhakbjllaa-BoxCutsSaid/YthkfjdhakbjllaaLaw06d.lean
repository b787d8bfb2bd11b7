/- BoxMatchesReference, walked. No condition. -/
import Derived.Test.YthkfjdhakbjllaaLaw06b
namespace Go.Proofs.Ythkfjdhakbjllaa
open Go.RowKit Go.Shelf
set_option linter.unusedVariables false
set_option linter.unusedSimpArgs false

theorem meet_form {alo ahi blo bhi : List Int} (ha : alo.length = ahi.length) (hl : alo.length ≤ 1000000) {m : Bool} (hm : decide (Meets alo ahi blo bhi) = m) {L H : List Int} (hL : (if m then meetLo alo blo else []) = L) (hH : (if m then meetHi ahi bhi else []) = H)
    (hb : blo.length = bhi.length) (i1 : ∀ x ∈ alo, I64 x) (i2 : ∀ x ∈ ahi, I64 x) (i3 : ∀ x ∈ blo, I64 x) (i4 : ∀ x ∈ bhi, I64 x) {w : World} {e : Ending} {w' : World} (h : MeetRet alo ahi blo bhi w e w') :
    (∃ p c q f, e = .returned (.tuple #[.agg #[.slice p L.length c, .slice q H.length f], .bool m]) ∧ Ints w' p L ∧ Ints w' q H) ∧ Below w.heap.size w w' := by
  obtain ⟨h, hbw⟩ := h
  refine ⟨?_, hbw⟩
  cases m with
  | true =>
    have hM : Meets alo ahi blo bhi := of_decide_eq_true hm
    have hL : meetLo alo blo = L := hL
    have hH : meetHi ahi bhi = H := hH
    rw [if_pos hM] at h
    obtain ⟨p, c, q, f, he, n1, n2⟩ := h
    have l1 : (meetLo alo blo).length = alo.length := meetLo_len hM.1
    have l2 : (meetHi ahi bhi).length = ahi.length := meetHi_len (by have := hM.1; omega)
    have j1 := n1.ints (mix_i64 mxI_or i1 i3) (by show (meetLo alo blo).length ≤ _; omega)
    have j2 := n2.ints (mix_i64 mnI_or i2 i4) (by show (meetHi ahi bhi).length ≤ _; omega)
    change Ints w' p (meetLo alo blo) at j1
    change Ints w' q (meetHi ahi bhi) at j2
    rw [hL] at he j1
    rw [hH] at he j2
    exact ⟨p, c, q, f, he, j1, j2⟩
  | false =>
    have hM : ¬ Meets alo ahi blo bhi := of_decide_eq_false hm
    have hL : ([] : List Int) = L := hL
    have hH : ([] : List Int) = H := hH
    subst hL hH
    rw [if_neg hM] at h
    exact ⟨none, 0, none, 0, h, Ints.nil _, Ints.nil _⟩
theorem sameX_self (a b : List Int) : sameX a b a b = true := by simp [sameX, eqS_self]
theorem two_in (w : World) (A1 A2 B1 B2 : Value) : ∃ W, Hid ((w.alloc (.cells #[A1, A2] 65)).alloc (.cells #[B1, B2] 65) = W) ∧ Below w.heap.size w W ∧ VR W w.heap.size A1 A2 ∧ VR W (w.heap.size + 1) B1 B2 := by
  have a1 := below_alloc w (.cells #[A1, A2] 65)
  have a2 := below_alloc (w.alloc (.cells #[A1, A2] 65)) (.cells #[B1, B2] 65)
  exact ⟨_, rfl, below_t a1 a2, (VR.new w A1 A2).keep a2, ⟨Own.made _ _ [B1, B2] _ (by simp)⟩⟩
theorem refHas_is (p q r : Option Addr) (c f d : Nat) (lo hi ix : List Int) (z : Bool) (hz : inX lo hi ix = z) (hle : lo.length ≤ hi.length) (w : World) (h : Ints w p lo) (h' : Ints w q hi) (hx : Ints w r ix) :
    Calls Try.prog 60 #[.agg #[.slice p lo.length c, .slice q hi.length f], .slice r ix.length d] w fun e w' => e = .returned (.bool z) ∧ Below w.heap.size w w' := hz ▸ RefHas_any p q r c f d lo hi ix hle w h h' hx
theorem cells_eq {lo hi : List Int} (h : lo.length ≤ hi.length) {rs : List RowV} (hr : rs.map RowV.v = betX lo hi) : (countX lo hi == (rs.length : Int)) = true := by
  have e : (rs.length : Int) = countX lo hi := by
    have h1 := congrArg List.length hr
    rw [List.length_map, bet_len] at h1
    rw [h1]
    exact allX_count h
  rw [e]
  simp

set_option maxRecDepth 100000 in
set_option maxHeartbeats 4000000 in
theorem BoxMatchesReference_law (p0 : Option Addr) (c0 : Nat) (s0 : List Int) (q0 : Option Addr) (f0 : Nat) (t0 : List Int) (p1 : Option Addr) (c1 : Nat) (s1 : List Int) (q1 : Option Addr) (f1 : Nat) (t1 : List Int) (r : Option Addr) (d : Nat) (ix : List Int) (w : World)
    (h0 : Ints w p0 s0) (g0 : Ints w q0 t0) (h1 : Ints w p1 s1) (g1 : Ints w q1 t1) (hx : Ints w r ix) :
    Calls Try.prog 12 #[.agg #[.slice p0 s0.length c0, .slice q0 t0.length f0], .agg #[.slice p1 s1.length c1, .slice q1 t1.length f1], .slice r ix.length d] w fun e w' => e = .returned (.bool true) ∧ Below w.heap.size w w' := by
  obtain ⟨W, HW, hb, A, B⟩ := two_in w (.slice p0 s0.length c0) (.slice q0 t0.length f0) (.slice p1 s1.length c1) (.slice q1 t1.length f1)
  have h0 := h0.keep hb
  have g0 := g0.keep hb
  have h1 := h1.keep hb
  have g1 := g1.keep hb
  have hx := hx.keep hb
  go_enter Try.func12, Try.ntmps12
  go_wp2_with fail
  rw [HW.out]
  clear HW
  generalize w.heap.size + 1 = gB at B ⊢
  refine (awake06 W).mono ?_
  rintro e1 w1 ⟨rfl, hb1⟩
  have A := A.keep hb1
  have hA0 := A.c0
  have hA1 := A.c1
  have B := B.keep hb1
  have h0 := h0.keep hb1
  have g0 := g0.keep hb1
  have h1 := h1.keep hb1
  have g1 := g1.keep hb1
  have hx := hx.keep hb1
  have hb := below_t hb hb1
  clear hb1
  have again : Hid (∀ z, Below w.heap.size w z → Calls Try.prog 50 #[] z fun e w' => e = .returned (.bool true) ∧ Below w.heap.size w w') := fun z hz => (awake06 z).mono fun e w' ⟨he, h⟩ => ⟨he, below_t hz h⟩
  by_cases k1 : (50 : Int) < (s0.length : Int)
  · have d1 : decide ((50 : Int) < (s0.length : Int)) = true := decide_eq_true k1
    go_wp2_with fail
    refine (again.out _ hb).mono ?_
    rintro e2 w2 ⟨rfl, hb2⟩
    go_wp2_with fail
    go_ret
    exact ⟨rfl, hb2⟩
  have d1 : decide ((50 : Int) < (s0.length : Int)) = false := decide_eq_false k1
  by_cases k2 : (50 : Int) < (t0.length : Int)
  · have d2 : decide ((50 : Int) < (t0.length : Int)) = true := decide_eq_true k2
    go_wp2_with fail
    refine (again.out _ hb).mono ?_
    rintro e2 w2 ⟨rfl, hb2⟩
    go_wp2_with fail
    go_ret
    exact ⟨rfl, hb2⟩
  have d2 : decide ((50 : Int) < (t0.length : Int)) = false := decide_eq_false k2
  by_cases k3 : (50 : Int) < (ix.length : Int)
  · have d3 : decide ((50 : Int) < (ix.length : Int)) = true := decide_eq_true k3
    go_wp2_with fail
    refine (again.out _ hb).mono ?_
    rintro e2 w2 ⟨rfl, hb2⟩
    go_wp2_with fail
    go_ret
    exact ⟨rfl, hb2⟩
  have d3 : decide ((50 : Int) < (ix.length : Int)) = false := decide_eq_false k3
  go_upto_region 3 with fail
  clear k1 k2 k3 d1 d2 d3 again hA0 hA1
  obtain ⟨b, hbv⟩ : ∃ b, Hid (rightX s0 t0 = b) := ⟨_, rfl⟩
  go_cut [35] (fun t wx => ∃ wz, t = .bool false ∧ wz = wx ∧ Below w1.heap.size w1 wz)
  case first =>
    have hKS : Keeps (fun w' => (w.heap.size < w'.heap.size ∧ w'.cell? ⟨w.heap.size, 0, none⟩ = some (.slice p0 s0.length c0)) ∧ (w.heap.size < w'.heap.size ∧ w'.cell? ⟨w.heap.size, 1, none⟩ = some (.slice q0 t0.length f0)) ∧ Below w1.heap.size w1 w') := (keeps_cell _ _ _).and ((keeps_cell _ _ _).and (keeps_below w1))
    have hS : (fun w' => (w.heap.size < w'.heap.size ∧ w'.cell? ⟨w.heap.size, 0, none⟩ = some (.slice p0 s0.length c0)) ∧ (w.heap.size < w'.heap.size ∧ w'.cell? ⟨w.heap.size, 1, none⟩ = some (.slice q0 t0.length f0)) ∧ Below w1.heap.size w1 w') w1 := ⟨⟨A.own.lt, A.c0⟩, ⟨A.own.lt, A.c1⟩, Below.refl _ _⟩
    have hbb : (b != b) = false := by simp
    refine wp_region_noPanic ?_
    refine wp_region_held_drew (S := (fun w' => (w.heap.size < w'.heap.size ∧ w'.cell? ⟨w.heap.size, 0, none⟩ = some (.slice p0 s0.length c0)) ∧ (w.heap.size < w'.heap.size ∧ w'.cell? ⟨w.heap.size, 1, none⟩ = some (.slice q0 t0.length f0)) ∧ Below w1.heap.size w1 w')) (by kernel_rfl) ?_ (fun hHeld => ?_)
    · (try dsimp only); exact hKS _ _ (by first | exact hHeld | exact hS) (by first | assumption | (go_grown; done) | (refine from_drew ?_; go_grown; done))
    refine takeH 0 (some 31) (v := ?_) rfl rfl (by kernel_rfl) (by kernel_rfl) (by kernel_rfl) (by rfl) ?_ (by exact hHeld) ?_
    rotate_left
    · intro w hSw; (try dsimp only at hSw); go_simp; try (with_reducible rfl)
    try simp only [Act.put, List.setIfInBounds_toArray, List.set_cons_zero, List.set_cons_succ]
    refine takeH 2 (some 33) (v := ?_) rfl rfl (by kernel_rfl) (by kernel_rfl) (by kernel_rfl) (by rfl) ?_ (by exact hHeld) ?_
    rotate_left
    · intro w hSw; (try dsimp only at hSw); go_simp; try (with_reducible rfl)
    try simp only [Act.put, List.setIfInBounds_toArray, List.set_cons_zero, List.set_cons_succ]
    refine wpAnyH_ready (rs := [1]) (by kernel_rfl) (by simp) ?_
    refine stepH 1 rfl (by rfl) (fun K hK => ?_) ?_
    · go_simp
      ((with_reducible refine (BoxRight_is p0 q0 c0 f0 s0 t0 _ _ rfl rfl b hbv.out _ ?_ ?_).mono ?_); (exact h0.keep hHeld.2.2); (exact g0.keep hHeld.2.2); rintro e2 w2 ⟨rfl, hb2⟩)
      refine hK.out _ _ ?_ (fun hNew => ?_)
      · (try dsimp only); exact hKS _ _ (by first | exact hHeld | exact hS) (by first | assumption | (go_grown; done) | (refine from_drew ?_; go_grown; done))
      clear hK K hHeld
      have hHeld := hNew
      clear hNew
      try dsimp only at hHeld
      try simp only [Act.put, List.setIfInBounds_toArray, List.set_cons_zero, List.set_cons_succ]
      refine wpAnyH_ready (rs := [3]) (by kernel_rfl) (by simp) ?_
      refine stepH 3 rfl (by rfl) (fun K hK => ?_) ?_
      · go_simp
        ((with_reducible refine (RefRight_is p0 q0 c0 f0 s0 t0 b hbv.out _ ?_ ?_).mono ?_); (exact h0.keep hHeld.2.2); (exact g0.keep hHeld.2.2); rintro e3 w3 ⟨rfl, hb3⟩)
        refine hK.out _ _ ?_ (fun hNew => ?_)
        · (try dsimp only); exact hKS _ _ (by first | exact hHeld | exact hS) (by first | assumption | (go_grown; done) | (refine from_drew ?_; go_grown; done))
        clear hK K hHeld
        have hHeld := hNew
        clear hNew
        try dsimp only at hHeld
        try simp only [Act.put, List.setIfInBounds_toArray, List.set_cons_zero, List.set_cons_succ]
        refine takeH 4 (some 35) (v := ?_) rfl rfl (by kernel_rfl) (by kernel_rfl) (by kernel_rfl) (by rfl) ?_ (by exact hHeld) ?_
        rotate_left
        · intro w hSw; (try dsimp only at hSw); go_simp; try (with_reducible rfl)
        try simp only [Act.put, List.setIfInBounds_toArray, List.set_cons_zero, List.set_cons_succ]
        refine wpAnyH_done (by kernel_rfl) ?_ _
        refine NoPanic.normal ?_
        have hbz := hHeld.2.2
        go_wp2_with fail
        all_goals go_meet
        exact ⟨_, rfl, rfl, hbz⟩
      exact AllReadyH.nil
    exact AllReadyH.nil
  case rest =>
    obtain ⟨wz, rfl, rfl, hb4⟩ := hcut
    have A := A.keep hb4
    have hA0 := A.c0
    have hA1 := A.c1
    have B := B.keep hb4
    have h0 := h0.keep hb4
    have g0 := g0.keep hb4
    have h1 := h1.keep hb4
    have g1 := g1.keep hb4
    have hx := hx.keep hb4
    have hb := below_t hb hb4
    clear hb4
    go_wp2_with fail
    clear hA0 hA1
    refine (RefSmall6_any p0 q0 c0 f0 s0 t0 300 (by decide) _ rfl _ h0 g0).mono ?_
    rintro e5 w5 ⟨rfl, hb5⟩
    have A := A.keep hb5
    have B := B.keep hb5
    have hB0 := B.c0
    have hB1 := B.c1
    have h0 := h0.keep hb5
    have g0 := g0.keep hb5
    have h1 := h1.keep hb5
    have g1 := g1.keep hb5
    have hx := hx.keep hb5
    have hb := below_t hb hb5
    clear hb5
    cases sa : smallX s0 t0 300 with
    | false =>
      go_wp2_with fail
      go_ret
      exact ⟨rfl, hb⟩
    | true =>
      go_wp2_with fail
      clear hB0 hB1
      refine (RefSmall6_any p1 q1 c1 f1 s1 t1 300 (by decide) _ rfl _ h1 g1).mono ?_
      rintro e6 w6 ⟨rfl, hb6⟩
      have A := A.keep hb6
      have hA0 := A.c0
      have hA1 := A.c1
      have B := B.keep hb6
      have hB0 := B.c0
      have hB1 := B.c1
      have h0 := h0.keep hb6
      have g0 := g0.keep hb6
      have h1 := h1.keep hb6
      have g1 := g1.keep hb6
      have hx := hx.keep hb6
      have hb := below_t hb hb6
      clear hb6
      cases sb : smallX s1 t1 300 with
      | false =>
        go_wp2_with fail
        go_ret
        exact ⟨rfl, hb⟩
      | true =>
        have SA := Lib.hid sa
        have SB := Lib.hid sb
        have FA := Lib.hid (smallX_few sa).2
        have LA := Lib.hid (smallX_few sa).1.1
        have LB := Lib.hid (smallX_few sb).1.1
        have hl1 : s0.length ≤ 1000000 := by have := FA.out.2.1; omega
        clear sa sb
        obtain ⟨m, M⟩ : ∃ m, Hid (decide (Meets s0 t0 s1 t1) = m) := ⟨_, rfl⟩
        obtain ⟨L, HL⟩ : ∃ L, Hid ((if m then meetLo s0 s1 else []) = L) := ⟨_, rfl⟩
        obtain ⟨H, HH⟩ : ∃ L, Hid ((if m then meetHi t0 t1 else []) = L) := ⟨_, rfl⟩
        go_wp2_with fail
        clear hA0 hA1 hB0 hB1
        refine (Meet_u p0 q0 p1 q1 c0 f0 c1 f1 s0 t0 s1 t1 hl1 LA.out LB.out (fun e => meet_small SA.out LB.out e) m M.out L H HL.out HH.out _ h0 g0 h1 g1).mono ?_
        rintro e7 w7 ⟨⟨xp, xc, xq, xf, rfl, ix7, jx7⟩, hb7⟩
        have hba := below_alloc w7 (.cells #[.slice xp L.length xc, .slice xq H.length xf] 67)
        have X := V2.new w7 (.slice xp L.length xc) (.slice xq H.length xf)
        have ix7 := ix7.keep hba
        have jx7 := jx7.keep hba
        have hb7 := below_t hb7 hba
        clear hba
        have A := A.keep hb7
        have hA0 := A.c0
        have hA1 := A.c1
        have B := B.keep hb7
        have hB0 := B.c0
        have hB1 := B.c1
        have h0 := h0.keep hb7
        have g0 := g0.keep hb7
        have h1 := h1.keep hb7
        have g1 := g1.keep hb7
        have hx := hx.keep hb7
        have hb := below_t hb hb7
        clear hb7
        go_wp2_with fail
        clear hA0 hA1 hB0 hB1
        refine (RefMeet_all p0 q0 p1 q1 c0 f0 c1 f1 s0 t0 s1 t1 hl1 LA.out LB.out _ h0 g0 h1 g1).mono ?_
        intro e8 w8 hret
        obtain ⟨⟨yp, yc, yq, yf, rfl, iy, jy⟩, hb8⟩ := meet_form LA.out hl1 M.out HL.out HH.out LB.out h0.i64 g0.i64 h1.i64 g1.i64 hret
        clear hret
        have hba := below_alloc w8 (.cells #[.slice yp L.length yc, .slice yq H.length yf] 65)
        have Y := VR.new w8 (.slice yp L.length yc) (.slice yq H.length yf)
        have iy := iy.keep hba
        have jy := jy.keep hba
        have hb8 := below_t hb8 hba
        clear hba B h1 g1
        have A := A.keep hb8
        have X := X.keep hb8
        have h0 := h0.keep hb8
        have g0 := g0.keep hb8
        have hx := hx.keep hb8
        have ix7 := ix7.keep hb8
        have jx7 := jx7.keep hb8
        have hb := below_t hb hb8
        clear hb8
        obtain ⟨v, hv⟩ : ∃ v, Hid (countX s0 t0 = v) := ⟨_, rfl⟩
        have hV : Hid (FullX s0 t0 → vol s0 t0 s0.length ≤ 9000000000000000000) := vol_small FA.out.2.1 fun j hj => by have := FA.out.2.2.1 j hj; unfold NearX at this; omega
        obtain ⟨z, hz⟩ : ∃ z, Hid (inX s0 t0 ix = z) := ⟨_, rfl⟩
        have hmm : (m == m) = true := by simp
        have hzz : (z == z) = true := by simp
        go_upto_region 9 with fail
        obtain ⟨W8, HW8⟩ : ∃ W8, Hid (w8.alloc (.cells #[.slice yp L.length yc, .slice yq H.length yf] 65) = W8) := ⟨_, rfl⟩
        rw [HW8.out] at A X Y h0 g0 hx ix7 jx7 iy jy hb ⊢
        clear HW8
        generalize w8.heap.size = gY at Y ⊢
        generalize w7.heap.size = gX at X ⊢
        have hKS : Keeps (fun w' => (w.heap.size < w'.heap.size ∧ w'.cell? ⟨w.heap.size, 0, none⟩ = some (.slice p0 s0.length c0)) ∧ (w.heap.size < w'.heap.size ∧ w'.cell? ⟨w.heap.size, 1, none⟩ = some (.slice q0 t0.length f0)) ∧ (gX < w'.heap.size ∧ w'.cell? ⟨gX, 0, none⟩ = some (.slice xp L.length xc)) ∧ (gX < w'.heap.size ∧ w'.cell? ⟨gX, 1, none⟩ = some (.slice xq H.length xf)) ∧ (gY < w'.heap.size ∧ w'.cell? ⟨gY, 0, none⟩ = some (.slice yp L.length yc)) ∧ (gY < w'.heap.size ∧ w'.cell? ⟨gY, 1, none⟩ = some (.slice yq H.length yf)) ∧ Below W8.heap.size W8 w') := (keeps_cell _ _ _).and ((keeps_cell _ _ _).and ((keeps_cell _ _ _).and ((keeps_cell _ _ _).and ((keeps_cell _ _ _).and ((keeps_cell _ _ _).and (keeps_below W8))))))
        have hS : (fun w' => (w.heap.size < w'.heap.size ∧ w'.cell? ⟨w.heap.size, 0, none⟩ = some (.slice p0 s0.length c0)) ∧ (w.heap.size < w'.heap.size ∧ w'.cell? ⟨w.heap.size, 1, none⟩ = some (.slice q0 t0.length f0)) ∧ (gX < w'.heap.size ∧ w'.cell? ⟨gX, 0, none⟩ = some (.slice xp L.length xc)) ∧ (gX < w'.heap.size ∧ w'.cell? ⟨gX, 1, none⟩ = some (.slice xq H.length xf)) ∧ (gY < w'.heap.size ∧ w'.cell? ⟨gY, 0, none⟩ = some (.slice yp L.length yc)) ∧ (gY < w'.heap.size ∧ w'.cell? ⟨gY, 1, none⟩ = some (.slice yq H.length yf)) ∧ Below W8.heap.size W8 w') W8 := ⟨⟨A.own.lt, A.c0⟩, ⟨A.own.lt, A.c1⟩, ⟨X.own.lt, X.c0⟩, ⟨X.own.lt, X.c1⟩, ⟨Y.own.lt, Y.c0⟩, ⟨Y.own.lt, Y.c1⟩, Below.refl _ _⟩
        clear A X Y
        refine wp_region_noPanic ?_
        refine wp_region_held_drew (S := (fun w' => (w.heap.size < w'.heap.size ∧ w'.cell? ⟨w.heap.size, 0, none⟩ = some (.slice p0 s0.length c0)) ∧ (w.heap.size < w'.heap.size ∧ w'.cell? ⟨w.heap.size, 1, none⟩ = some (.slice q0 t0.length f0)) ∧ (gX < w'.heap.size ∧ w'.cell? ⟨gX, 0, none⟩ = some (.slice xp L.length xc)) ∧ (gX < w'.heap.size ∧ w'.cell? ⟨gX, 1, none⟩ = some (.slice xq H.length xf)) ∧ (gY < w'.heap.size ∧ w'.cell? ⟨gY, 0, none⟩ = some (.slice yp L.length yc)) ∧ (gY < w'.heap.size ∧ w'.cell? ⟨gY, 1, none⟩ = some (.slice yq H.length yf)) ∧ Below W8.heap.size W8 w')) (by kernel_rfl) ?_ (fun hHeld => ?_)
        · (try dsimp only); exact hKS _ _ (by first | exact hHeld | exact hS) (by first | assumption | (go_grown; done) | (refine from_drew ?_; go_grown; done))
        refine takeH 0 (some 56) (v := ?_) rfl rfl (by kernel_rfl) (by kernel_rfl) (by kernel_rfl) (by rfl) ?_ (by exact hHeld) ?_
        rotate_left
        · intro w hSw; (try dsimp only at hSw); go_simp; try (with_reducible rfl)
        try simp only [Act.put, List.setIfInBounds_toArray, List.set_cons_zero, List.set_cons_succ]
        refine takeH 1 (some 57) (v := ?_) rfl rfl (by kernel_rfl) (by kernel_rfl) (by kernel_rfl) (by rfl) ?_ (by exact hHeld) ?_
        rotate_left
        · intro w hSw; (try dsimp only at hSw); go_simp; try (with_reducible rfl)
        try simp only [Act.put, List.setIfInBounds_toArray, List.set_cons_zero, List.set_cons_succ]
        refine takeH 2 (some 58) (v := ?_) rfl rfl (by kernel_rfl) (by kernel_rfl) (by kernel_rfl) (by rfl) ?_ (by exact hHeld) ?_
        rotate_left
        · intro w hSw; (try dsimp only at hSw); go_simp; try (with_reducible rfl)
        try simp only [Act.put, List.setIfInBounds_toArray, List.set_cons_zero, List.set_cons_succ]
        refine takeH 3 (some 59) (v := ?_) rfl rfl (by kernel_rfl) (by kernel_rfl) (by kernel_rfl) (by rfl) ?_ (by exact hHeld) ?_
        rotate_left
        · intro w hSw; (try dsimp only at hSw); go_simp; try (with_reducible rfl)
        try simp only [Act.put, List.setIfInBounds_toArray, List.set_cons_zero, List.set_cons_succ]
        refine takeH 4 (some 60) (v := ?_) rfl rfl (by kernel_rfl) (by kernel_rfl) (by kernel_rfl) (by rfl) ?_ (by exact hHeld) ?_
        rotate_left
        · intro w hSw; (try dsimp only at hSw); go_simp; try (with_reducible rfl)
        try simp only [Act.put, List.setIfInBounds_toArray, List.set_cons_zero, List.set_cons_succ]
        refine takeH 5 (some 61) (v := ?_) rfl rfl (by kernel_rfl) (by kernel_rfl) (by kernel_rfl) (by rfl) ?_ (by exact hHeld) ?_
        rotate_left
        · intro w hSw; (try dsimp only at hSw); go_simp; try (with_reducible rfl)
        try simp only [Act.put, List.setIfInBounds_toArray, List.set_cons_zero, List.set_cons_succ]
        refine wpAnyH_ready (rs := [6]) (by kernel_rfl) (by simp) ?_
        refine stepH 6 rfl (by rfl) (fun K hK => ?_) ?_
        · go_simp
          ((with_reducible refine (BoxSame_any xp xq yp yq xc xf yc yf L H L H true (sameX_self L H) _ ?_ ?_ ?_ ?_).mono ?_); (exact ix7.keep hHeld.2.2.2.2.2.2); (exact jx7.keep hHeld.2.2.2.2.2.2); (exact iy.keep hHeld.2.2.2.2.2.2); (exact jy.keep hHeld.2.2.2.2.2.2); rintro e9 w9 ⟨rfl, hb9⟩)
          refine hK.out _ _ ?_ (fun hNew => ?_)
          · (try dsimp only); exact hKS _ _ (by first | exact hHeld | exact hS) (by first | assumption | (go_grown; done) | (refine from_drew ?_; go_grown; done))
          clear hK K hHeld
          have hHeld := hNew
          clear hNew
          try dsimp only at hHeld
          try simp only [Act.put, List.setIfInBounds_toArray, List.set_cons_zero, List.set_cons_succ]
          refine takeH 7 (some 63) (v := ?_) rfl rfl (by kernel_rfl) (by kernel_rfl) (by kernel_rfl) (by rfl) ?_ (by exact hHeld) ?_
          rotate_left
          · intro w hSw; (try dsimp only at hSw); go_simp; try (with_reducible rfl)
          try simp only [Act.put, List.setIfInBounds_toArray, List.set_cons_zero, List.set_cons_succ]
          refine takeH 8 (some 64) (v := ?_) rfl rfl (by kernel_rfl) (by kernel_rfl) (by kernel_rfl) (by rfl) ?_ (by exact hHeld) ?_
          rotate_left
          · intro w hSw; (try dsimp only at hSw); go_simp; try (with_reducible rfl)
          try simp only [Act.put, List.setIfInBounds_toArray, List.set_cons_zero, List.set_cons_succ]
          refine takeH 9 (some 65) (v := ?_) rfl rfl (by kernel_rfl) (by kernel_rfl) (by kernel_rfl) (by rfl) ?_ (by exact hHeld) ?_
          rotate_left
          · intro w hSw; (try dsimp only at hSw); go_simp; try (with_reducible rfl)
          try simp only [Act.put, List.setIfInBounds_toArray, List.set_cons_zero, List.set_cons_succ]
          refine takeH 11 (some 67) (v := ?_) rfl rfl (by kernel_rfl) (by kernel_rfl) (by kernel_rfl) (by rfl) ?_ (by exact hHeld) ?_
          rotate_left
          · intro w hSw; (try dsimp only at hSw); go_simp; try (with_reducible rfl)
          try simp only [Act.put, List.setIfInBounds_toArray, List.set_cons_zero, List.set_cons_succ]
          refine wpAnyH_ready (rs := [10]) (by kernel_rfl) (by simp) ?_
          refine stepH 10 rfl (by rfl) (fun K hK => ?_) ?_
          · go_simp
            ((with_reducible refine (BoxSize_is p0 q0 c0 f0 s0 t0 _ _ rfl rfl v hv.out ?_ hV.out _ ?_ ?_).mono ?_); (have := LA.out; omega); (exact h0.keep hHeld.2.2.2.2.2.2); (exact g0.keep hHeld.2.2.2.2.2.2); rintro e10 w10 ⟨rfl, hb10⟩)
            refine hK.out _ _ ?_ (fun hNew => ?_)
            · (try dsimp only); exact hKS _ _ (by first | exact hHeld | exact hS) (by first | assumption | (go_grown; done) | (refine from_drew ?_; go_grown; done))
            clear hK K hHeld
            have hHeld := hNew
            clear hNew
            try dsimp only at hHeld
            try simp only [Act.put, List.setIfInBounds_toArray, List.set_cons_zero, List.set_cons_succ]
            refine wpAnyH_ready (rs := [12]) (by kernel_rfl) (by simp) ?_
            refine stepH 12 rfl (by rfl) (fun K hK => ?_) ?_
            · go_simp
              ((with_reducible refine (RefCells6_any p0 q0 c0 f0 s0 t0 300 (by decide) (by decide) FA.out _ ?_ ?_).mono ?_); (exact h0.keep hHeld.2.2.2.2.2.2); (exact g0.keep hHeld.2.2.2.2.2.2); rintro e11 w11 ⟨⟨rp, rc, rs, rfl, hro, hrv⟩, hb11⟩; have hcn := cells_eq (by have := LA.out; omega) hrv; rw [hv.out] at hcn)
              refine hK.out _ _ ?_ (fun hNew => ?_)
              · (try dsimp only); exact hKS _ _ (by first | exact hHeld | exact hS) (by first | assumption | (go_grown; done) | (refine from_drew ?_; go_grown; done))
              clear hK K hHeld
              have hHeld := hNew
              clear hNew
              try dsimp only at hHeld
              try simp only [Act.put, List.setIfInBounds_toArray, List.set_cons_zero, List.set_cons_succ]
              refine takeH 13 (some 69) (v := ?_) rfl rfl (by kernel_rfl) (by kernel_rfl) (by kernel_rfl) (by rfl) ?_ (by exact hHeld) ?_
              rotate_left
              · intro w hSw; (try dsimp only at hSw); go_simp; try (with_reducible rfl)
              try simp only [Act.put, List.setIfInBounds_toArray, List.set_cons_zero, List.set_cons_succ]
              refine takeH 14 (some 70) (v := ?_) rfl rfl (by kernel_rfl) (by kernel_rfl) (by kernel_rfl) (by rfl) ?_ (by exact hHeld) ?_
              rotate_left
              · intro w hSw; (try dsimp only at hSw); go_simp; try (with_reducible rfl)
              try simp only [Act.put, List.setIfInBounds_toArray, List.set_cons_zero, List.set_cons_succ]
              refine takeH 15 (some 71) (v := ?_) rfl rfl (by kernel_rfl) (by kernel_rfl) (by kernel_rfl) (by rfl) ?_ (by exact hHeld) ?_
              rotate_left
              · intro w hSw; (try dsimp only at hSw); go_simp; try (with_reducible rfl)
              try simp only [Act.put, List.setIfInBounds_toArray, List.set_cons_zero, List.set_cons_succ]
              refine takeH 16 (some 72) (v := ?_) rfl rfl (by kernel_rfl) (by kernel_rfl) (by kernel_rfl) (by rfl) ?_ (by exact hHeld) ?_
              rotate_left
              · intro w hSw; (try dsimp only at hSw); go_simp; try (with_reducible rfl)
              try simp only [Act.put, List.setIfInBounds_toArray, List.set_cons_zero, List.set_cons_succ]
              refine takeH 17 (some 73) (v := ?_) rfl rfl (by kernel_rfl) (by kernel_rfl) (by kernel_rfl) (by rfl) ?_ (by exact hHeld) ?_
              rotate_left
              · intro w hSw; (try dsimp only at hSw); go_simp; try (with_reducible rfl)
              try simp only [Act.put, List.setIfInBounds_toArray, List.set_cons_zero, List.set_cons_succ]
              refine takeH 18 (some 74) (v := ?_) rfl rfl (by kernel_rfl) (by kernel_rfl) (by kernel_rfl) (by rfl) ?_ (by exact hHeld) ?_
              rotate_left
              · intro w hSw; (try dsimp only at hSw); go_simp; try (with_reducible rfl)
              try simp only [Act.put, List.setIfInBounds_toArray, List.set_cons_zero, List.set_cons_succ]
              refine takeH 20 (some 76) (v := ?_) rfl rfl (by kernel_rfl) (by kernel_rfl) (by kernel_rfl) (by rfl) ?_ (by exact hHeld) ?_
              rotate_left
              · intro w hSw; (try dsimp only at hSw); go_simp; try (with_reducible rfl)
              try simp only [Act.put, List.setIfInBounds_toArray, List.set_cons_zero, List.set_cons_succ]
              refine takeH 21 (some 77) (v := ?_) rfl rfl (by kernel_rfl) (by kernel_rfl) (by kernel_rfl) (by rfl) ?_ (by exact hHeld) ?_
              rotate_left
              · intro w hSw; (try dsimp only at hSw); go_simp; try (with_reducible rfl)
              try simp only [Act.put, List.setIfInBounds_toArray, List.set_cons_zero, List.set_cons_succ]
              refine wpAnyH_ready (rs := [19]) (by kernel_rfl) (by simp) ?_
              refine stepH 19 rfl (by rfl) (fun K hK => ?_) ?_
              · go_simp
                ((with_reducible refine (boxHas_is p0 q0 r c0 f0 d s0 t0 ix z hz.out ?_ _ ?_ ?_ ?_).mono ?_); (have := LA.out; omega); (exact h0.keep hHeld.2.2.2.2.2.2); (exact g0.keep hHeld.2.2.2.2.2.2); (exact hx.keep hHeld.2.2.2.2.2.2); rintro e12 w12 ⟨rfl, hb12⟩)
                refine hK.out _ _ ?_ (fun hNew => ?_)
                · (try dsimp only); exact hKS _ _ (by first | exact hHeld | exact hS) (by first | assumption | (go_grown; done) | (refine from_drew ?_; go_grown; done))
                clear hK K hHeld
                have hHeld := hNew
                clear hNew
                try dsimp only at hHeld
                try simp only [Act.put, List.setIfInBounds_toArray, List.set_cons_zero, List.set_cons_succ]
                refine wpAnyH_ready (rs := [22]) (by kernel_rfl) (by simp) ?_
                refine stepH 22 rfl (by rfl) (fun K hK => ?_) ?_
                · go_simp
                  ((with_reducible refine (refHas_is p0 q0 r c0 f0 d s0 t0 ix z hz.out ?_ _ ?_ ?_ ?_).mono ?_); (have := LA.out; omega); (exact h0.keep hHeld.2.2.2.2.2.2); (exact g0.keep hHeld.2.2.2.2.2.2); (exact hx.keep hHeld.2.2.2.2.2.2); rintro e13 w13 ⟨rfl, hb13⟩)
                  refine hK.out _ _ ?_ (fun hNew => ?_)
                  · (try dsimp only); exact hKS _ _ (by first | exact hHeld | exact hS) (by first | assumption | (go_grown; done) | (refine from_drew ?_; go_grown; done))
                  clear hK K hHeld
                  have hHeld := hNew
                  clear hNew
                  try dsimp only at hHeld
                  try simp only [Act.put, List.setIfInBounds_toArray, List.set_cons_zero, List.set_cons_succ]
                  refine takeH 23 (some 79) (v := ?_) rfl rfl (by kernel_rfl) (by kernel_rfl) (by kernel_rfl) (by rfl) ?_ (by exact hHeld) ?_
                  rotate_left
                  · intro w hSw; (try dsimp only at hSw); go_simp; try (with_reducible rfl)
                  try simp only [Act.put, List.setIfInBounds_toArray, List.set_cons_zero, List.set_cons_succ]
                  refine takeH 24 (some 80) (v := ?_) rfl rfl (by kernel_rfl) (by kernel_rfl) (by kernel_rfl) (by rfl) ?_ (by exact hHeld) ?_
                  rotate_left
                  · intro w hSw; (try dsimp only at hSw); go_simp; try (with_reducible rfl)
                  try simp only [Act.put, List.setIfInBounds_toArray, List.set_cons_zero, List.set_cons_succ]
                  refine takeH 25 (some 6) (v := ?_) rfl rfl (by kernel_rfl) (by kernel_rfl) (by kernel_rfl) (by rfl) ?_ (by exact hHeld) ?_
                  rotate_left
                  · intro w hSw; (try dsimp only at hSw); go_simp; try (with_reducible rfl)
                  try simp only [Act.put, List.setIfInBounds_toArray, List.set_cons_zero, List.set_cons_succ]
                  refine wpAnyH_done (by kernel_rfl) ?_ _
                  refine NoPanic.normal ?_
                  have hbz := below_t hb hHeld.2.2.2.2.2.2
                  go_wp2_with fail
                  go_ret
                  exact ⟨rfl, hbz⟩
                exact AllReadyH.nil
              exact AllReadyH.nil
            exact AllReadyH.nil
          exact AllReadyH.nil
        exact AllReadyH.nil
end Go.Proofs.Ythkfjdhakbjllaa
