/- BoxShifts, walked at an axis that is there. No condition beyond what each says. -/
import Derived.Test.YthkfjdhakbjllaaLaw06e
namespace Go.Proofs.Ythkfjdhakbjllaa
open Go.RowKit Go.Shelf
set_option linter.unusedVariables false
set_option linter.unusedSimpArgs false

/-- shifting back -/
theorem Shift_back (p q : Option Addr) (c f n m : Nat) (lo hi lo2 hi2 : List Int) (a : Nat) (s : Int) (x y : Int) (hx : nth lo a = x) (hy : nth hi a = y) (h1 : lo.set a (x + s) = lo2) (h2 : hi.set a (y + s) = hi2) (hn : n = lo.length) (hm : m = hi.length) (ha : a < lo.length) (hlh : lo.length = hi.length) (hl : lo.length ≤ 1000000) (hs : -65536 ≤ s ∧ s ≤ 65536) (hr : RightX lo hi) (hr2 : RightX lo2 hi2) (w : World) (i1 : Ints w p lo2) (i2 : Ints w q hi2) (j1 : ∀ u ∈ lo, I64 u) (j2 : ∀ u ∈ hi, I64 u) :
    Calls Try.prog 63 #[.agg #[.slice p n c, .slice q m f], .int .i64 a, .int .i64 (-s)] w fun e w' => (∃ p1 c1 p2 c2, e = .returned (.tuple #[.agg #[.slice p1 lo.length c1, .slice p2 hi.length c2], .bool true]) ∧ Ints w' p1 lo ∧ Ints w' p2 hi) ∧ Below w.heap.size w w' := by
  subst hn hm
  have e1 : lo2.length = lo.length := by rw [← h1, List.length_set]
  have e2 : hi2.length = hi.length := by rw [← h2, List.length_set]
  have b1 : lo2.set a (nth lo2 a + -s) = lo := by rw [← h1, ← hx]; exact set_set_back ha
  have b2 : hi2.set a (nth hi2 a + -s) = hi := by rw [← h2, ← hy]; exact set_set_back (by omega)
  have := Shift_in p q c f lo2 hi2 a (-s) (by omega) (by omega) (by omega) (by omega) hr2 w i1 i2
  rw [e1, e2] at this
  refine this.mono ?_
  rintro e w' ⟨h, hb⟩
  have hok : ShiftOk lo2 hi2 a (-s) := by
    unfold ShiftOk
    rw [b1, b2]
    exact hr
  rw [if_pos hok, b1, b2, e1, e2] at h
  obtain ⟨p1, c1, p2, c2, he, k1, k2⟩ := h
  exact ⟨⟨p1, c1, p2, c2, he, k1.ints j1 (by omega), k2.ints j2 (by omega)⟩, hb⟩
theorem RefRight_n (p q : Option Addr) (c f : Nat) (lo hi : List Int) (n m : Nat) (hn : n = lo.length) (hm : m = hi.length) (r : Bool) (hr : rightX lo hi = r) (w : World) (h : Ints w p lo) (h' : Ints w q hi) :
    Calls Try.prog 52 #[.agg #[.slice p n c, .slice q m f]] w fun e w' => e = .returned (.bool r) ∧ Below w.heap.size w w' := by
  subst hn hm
  exact RefRight_is p q c f lo hi r hr w h h'
theorem boxHas_n (p q r : Option Addr) (c f d : Nat) (lo hi ix : List Int) (n m k : Nat) (hn : n = lo.length) (hm : m = hi.length) (hk : k = ix.length) (z : Bool) (hz : inX lo hi ix = z) (hle : lo.length ≤ hi.length) (w : World) (h : Ints w p lo) (h' : Ints w q hi) (hx : Ints w r ix) :
    Calls Try.prog 59 #[.agg #[.slice p n c, .slice q m f], .slice r k d] w fun e w' => e = .returned (.bool z) ∧ Below w.heap.size w w' := by
  subst hn hm hk
  exact boxHas_is p q r c f d lo hi ix z hz hle w h h' hx

set_option maxRecDepth 100000 in
set_option maxHeartbeats 4000000 in
theorem Shifts_in (p q : Option Addr) (c f : Nat) (lo hi : List Int) (a : Nat) (s : Int) (ha : a < lo.length) (hs : -65536 ≤ s ∧ s ≤ 65536) (sa : smallX lo hi 200 = true) (w : World) (h : Ints w p lo) (h' : Ints w q hi) :
    Calls Try.prog 14 #[.agg #[.slice p lo.length c, .slice q hi.length f], .int .i64 a, .int .i64 s] w fun e w' => e = .returned (.bool true) ∧ Below w.heap.size w w' := by
  obtain ⟨W, HW, hb, A⟩ := one_in w (.slice p lo.length c) (.slice q hi.length f)
  have h := h.keep hb
  have h' := h'.keep hb
  have SA := Lib.hid sa
  have FA := Lib.hid (smallX_few sa).2
  have RA := Lib.hid (smallX_few sa).1
  have LA := Lib.hid (smallX_few sa).1.1
  have hl : lo.length ≤ 1000000 := by have := FA.out.2.1; omega
  have ha' : a < hi.length := by have := LA.out; omega
  have hl2 : hi.length ≤ 1000000 := by have := LA.out; omega
  clear sa
  obtain ⟨x, hx⟩ : ∃ x, nth lo a = x := ⟨_, rfl⟩
  obtain ⟨y, hy⟩ : ∃ y, nth hi a = y := ⟨_, rfl⟩
  have HX := Lib.hid hx
  have HY := Lib.hid hy
  have hxy := RA.out.2.2 a ha
  have hxn := FA.out.2.2.1 a ha
  unfold NearX at hxn
  rw [hx, hy] at hxy hxn
  clear hx hy
  have d1 : decide ((a : Int) < 0) = false := by simp
  have d2 : decide ((lo.length : Int) ≤ (a : Int)) = false := by simp; omega
  have d3 : decide (65536 < s) = false := by simp; omega
  have d4 : decide (s < -65536) = false := by simp; omega
  have hi1 : (a : Int) < (lo.length : Int) := by omega
  have hi2 : (a : Int) < (hi.length : Int) := by omega
  have hw1 : wrap64 (x + s) = x + s := wrap64_id (by omega) (by omega)
  have hw2 : wrap64 (y + s) = y + s := wrap64_id (by omega) (by omega)
  have hw3 : wrap64 (-s) = -s := wrap64_id (by omega) (by omega)
  go_enter Try.func14, Try.ntmps14
  go_wp2_with fail
  rw [HW.out]
  clear HW
  refine (awake06 W).mono ?_
  rintro e1 w1 ⟨rfl, hb1⟩
  have A := A.keep hb1
  have hA0 := A.c0
  have hA1 := A.c1
  have h := h.keep hb1
  have h' := h'.keep hb1
  have hb := below_t hb hb1
  clear hb1
  go_wp2_with fail
  clear hA0 hA1
  refine (RefSmall6_any p q c f lo hi 200 (by decide) true SA.out _ h h').mono ?_
  rintro e2 w2 ⟨rfl, hb2⟩
  have A := A.keep hb2
  have hA0 := A.c0
  have hA1 := A.c1
  have h := h.keep hb2
  have h' := h'.keep hb2
  have hb := below_t hb hb2
  clear hb2
  go_wp2_with fail
  clear hA0 hA1
  refine (Shift_in p q c f lo hi a s ha LA.out hl hs RA.out _ h h').mono ?_
  rintro e3 w3 ⟨hret, hb3⟩
  rw [HX.out, HY.out] at hret
  have hsok := shift_ok (b := s) RA.out ha
  rw [HX.out, HY.out] at hsok
  have A := A.keep hb3
  have h := h.keep hb3
  have h' := h'.keep hb3
  have hb := below_t hb hb3
  clear hb3
  obtain ⟨bl, ol, rfl, hbl, ca⟩ := h.at ha
  obtain ⟨bh, oh, rfl, hbh, cb⟩ := h'.at ha'
  rw [HX.out] at ca
  rw [HY.out] at cb
  by_cases hok : ShiftOk lo hi a s
  · rw [if_pos hok] at hret
    obtain ⟨p1, k1, p2, k2, rfl, n1, n2⟩ := hret
    have hno := hsok.1 hok
    have g1 : decide (x + s < 0) = false := by simp; omega
    have g2 : decide (65536 < y + s) = false := by simp; omega
    have HI1 : NL lo := (near_NL LA.out FA.out.2.2.1).1
    have HI2 : NL hi := (near_NL LA.out FA.out.2.2.1).2
    have HJ1 : ∀ u ∈ lo.set a (x + s), I64 u := fun u hu => by
      rcases List.mem_or_eq_of_mem_set hu with h1 | h1
      · exact HI1.i64 u h1
      · rw [h1]; unfold I64; omega
    have HJ2 : ∀ u ∈ hi.set a (y + s), I64 u := fun u hu => by
      rcases List.mem_or_eq_of_mem_set hu with h1 | h1
      · exact HI2.i64 u h1
      · rw [h1]; unfold I64; omega
    have ib : Ints w3 p1 (lo.set a (x + s)) := n1.ints HJ1 (by simp; omega)
    have jb : Ints w3 p2 (hi.set a (y + s)) := n2.ints HJ2 (by simp; omega)
    have hRB : RightX (lo.set a (x + s)) (hi.set a (y + s)) := by
      have := hok
      unfold ShiftOk at this
      rw [HX.out, HY.out] at this
      exact this
    have hba := below_alloc w3 (.cells #[.slice p1 lo.length k1, .slice p2 hi.length k2] 67)
    have B := V2.new w3 (.slice p1 lo.length k1) (.slice p2 hi.length k2)
    have ib := ib.keep hba
    have jb := jb.keep hba
    have e1 := (hba.cell (p := ⟨bl, ol + a, none⟩) hbl).trans ca
    have e2 := (hba.cell (p := ⟨bh, oh + a, none⟩) hbh).trans cb
    have HI1 := Lib.hid HI1.i64
    have HI2 := Lib.hid HI2.i64
    clear n1 n2 hsok hno HJ1 HJ2 ca cb
    have A := A.keep hba
    have hA0 := A.c0
    have hA1 := A.c1
    have h := h.keep hba
    have h' := h'.keep hba
    have hb := below_t hb hba
    clear hba
    obtain ⟨lo2, hlo2⟩ : ∃ l, lo.set a (x + s) = l := ⟨_, rfl⟩
    obtain ⟨hi2', hhi2⟩ : ∃ l, hi.set a (y + s) = l := ⟨_, rfl⟩
    have LL1 : Hid (lo2.length = lo.length) := by rw [Hid, ← hlo2, List.length_set]
    have LL2 : Hid (hi2'.length = hi.length) := by rw [Hid, ← hhi2, List.length_set]
    have HLO := Lib.hid hlo2
    have HHI := Lib.hid hhi2
    rw [hlo2] at ib hRB
    rw [hhi2] at jb hRB
    have HRB := Lib.hid hRB
    clear hlo2 hhi2 hRB hok
    go_wp2_with fail
    clear hA0 hA1 e1 e2
    refine (Shift_back p1 p2 k1 k2 _ _ lo hi lo2 hi2' a s x y HX.out HY.out HLO.out HHI.out rfl rfl ha LA.out hl hs RA.out HRB.out _ ib jb HI1.out HI2.out).mono ?_
    rintro e4 w4 ⟨⟨p3, k3, p4, k4, rfl, ic, jc⟩, hb4⟩
    have hba := below_alloc w4 (.cells #[.slice p3 lo.length k3, .slice p4 hi.length k4] 67)
    have C := V2.new w4 (.slice p3 lo.length k3) (.slice p4 hi.length k4)
    have ic := ic.keep hba
    have jc := jc.keep hba
    have hb4 := below_t hb4 hba
    clear hba
    have A := A.keep hb4
    have hA0 := A.c0
    have hA1 := A.c1
    have B := B.keep hb4
    have h := h.keep hb4
    have h' := h'.keep hb4
    have ib := ib.keep hb4
    have jb := jb.keep hb4
    have hb := below_t hb hb4
    clear hb4
    go_wp2_with fail
    clear hA0 hA1
    refine (BoxSame_any p3 p4 _ _ k3 k4 c f lo hi lo hi true (sameX_self lo hi) _ ic jc h h').mono ?_
    rintro e5 w5 ⟨rfl, hb5⟩
    clear C ic jc
    have A := A.keep hb5
    have B := B.keep hb5
    have hB0 := B.c0
    have hB1 := B.c1
    have h := h.keep hb5
    have h' := h'.keep hb5
    have ib := ib.keep hb5
    have jb := jb.keep hb5
    have hb := below_t hb hb5
    clear hb5
    have hrt : Hid (rightX lo2 hi2' = true) := rightX_yes HRB.out
    go_wp2_with fail
    clear hB0 hB1
    refine (RefRight_n p1 p2 k1 k2 lo2 hi2' _ _ LL1.out.symm LL2.out.symm true hrt.out _ ib jb).mono ?_
    rintro e6 w6 ⟨rfl, hb6⟩
    have A := A.keep hb6
    have hA0 := A.c0
    have hA1 := A.c1
    have B := B.keep hb6
    have h := h.keep hb6
    have h' := h'.keep hb6
    have ib := ib.keep hb6
    have jb := jb.keep hb6
    have hb := below_t hb hb6
    clear hb6
    go_wp2_with fail
    clear hA0 hA1
    refine (RefCells6_any _ _ c f lo hi 200 (by decide) (by decide) FA.out _ h h').mono ?_
    rintro e7 w7 ⟨⟨pc, cc, rs, rfl, hro, hrv⟩, hb7⟩
    have hcn := Lib.hid (cells_eq (by have := LA.out; omega) hrv)
    have HRV := Lib.hid hrv
    have hnr : Hid (rs.length ≤ 1000000) := by
      have h1 := few_bound (by decide) (by decide) FA.out lo.length (Nat.le_refl _)
      rw [List.take_of_length_le (by rw [dims_len (by have := LA.out; omega)]; omega)] at h1
      have h2 := congrArg List.length hrv
      rw [List.length_map, bet_len] at h2
      rw [Hid]
      omega
    clear hrv A h h' hbl hbh d1 d2 d3 d4 hw1 hw2 hw3 g1 g2
    go_wp2_with fail
    go_loopw [12] (fun i wr => ∃ (k : Nat) (rz : List RowV), k ≤ rs.length ∧ i = .int .i64 k ∧ Hid (rz.length = rs.length ∧ RowsAt w6.heap.size wr pc rz ∧ (rz.map RowV.v).drop k = (betX lo hi).drop k) ∧ Below w6.heap.size w6 wr) (fun i _ => rs.length - (intOf i).toNat)
    case atStart => exact ⟨0, rs, Nat.zero_le _, rfl, ⟨rfl, hro, by rw [HRV.out]⟩, hb7⟩
    case round =>
      obtain ⟨k, rz, hk, rfl, HZ, hbz⟩ := hrel
      clear hro hb7
      have hNR := hnr.out
      by_cases hkl : k < rs.length
      · have hk1 : (k : Int) < (rs.length : Int) := by omega
        have hkz : k < rz.length := by rw [HZ.out.1]; exact hkl
        obtain ⟨rr, hrr⟩ : ∃ rr, rz[k]? = some rr := ⟨_, List.getElem?_eq_getElem hkz⟩
        have hmem : rr.v ∈ betX lo hi := by
          have h1 := congrArg (fun l => l[0]?) HZ.out.2.2
          simp only [List.getElem?_drop, Nat.add_zero, List.getElem?_map, hrr, Option.map_some] at h1
          exact List.mem_of_getElem? h1.symm
        have hIn := (bet_mem (by have := LA.out; omega)).1 hmem
        have hvl : rr.v.length = lo.length := hIn.1
        obtain ⟨⟨bo, rfl, hbo, hco⟩, hnw⟩ := HZ.out.2.1.at hrr
        obtain ⟨g, hgp, hgB, hown⟩ : ∃ g, rr.p = some ⟨g, 0, none⟩ ∧ w6.heap.size ≤ g ∧ Own wr g 3 (rr.v.map (.int .i64)) := by
          rcases hnw with h0 | h0
          · have : rr.v = [] := by simpa using h0
            rw [this] at hvl
            simp at hvl
            omega
          · exact h0
        have hav : a < rr.v.length := by rw [hvl]; exact ha
        obtain ⟨z, hz⟩ : ∃ z, nth rr.v a = z := ⟨_, rfl⟩
        have hzb := hIn.2 a (by omega)
        rw [HX.out, HY.out, hz] at hzb
        have hcx : wr.cell? ⟨g, a, none⟩ = some (.int .i64 z) := hown.cell (by rw [List.getElem?_map, nth_get? hav, hz]; rfl)
        have hfx := hown.frozen a
        have hwz : wrap64 (z + s) = z + s := wrap64_id (by omega) (by omega)
        have HW1 : Hid (RowsAt w6.heap.size (wr.setCell ⟨g, a, none⟩ (.int .i64 (z + s))) (some ⟨bo, 0, none⟩) (rz.set k ⟨rr.p, rr.c, rr.v.set a (z + s)⟩)) := HZ.out.2.1.write hrr hav hgp (z + s)
        have HW2 : Hid (((rz.set k ⟨rr.p, rr.c, rr.v.set a (z + s)⟩).map RowV.v).drop (k + 1) = (betX lo hi).drop (k + 1)) := by
          rw [Hid, List.map_set, List.drop_set_of_lt (by omega)]
          have := congrArg (List.drop 1) HZ.out.2.2
          rw [List.drop_drop, List.drop_drop] at this
          exact this
        have HW3 : Hid ((rz.set k ⟨rr.p, rr.c, rr.v.set a (z + s)⟩)[k]? = some ⟨rr.p, rr.c, rr.v.set a (z + s)⟩) := by rw [Hid, List.getElem?_set]; simp [hkz]
        have HW4 : Hid ((rz.set k ⟨rr.p, rr.c, rr.v.set a (z + s)⟩).length = rs.length) := by rw [Hid, List.length_set]; exact HZ.out.1
        have HW5 : Hid (inX lo2 hi2' (rr.v.set a (z + s)) = true) := by
          have := shift_inX (b := s) ha ha' hIn
          rw [HX.out, HY.out, hz, HLO.out, HHI.out] at this
          exact this
        have HW6 : Hid (∀ u ∈ rr.v.set a (z + s), I64 u) := fun u hu => by
          rcases List.mem_or_eq_of_mem_set hu with h1 | h1
          · obtain ⟨j, hj, rfl⟩ := List.mem_iff_getElem.1 h1
            have h3 := hIn.2 j hj
            have h4 := RA.out.2.2 j (by omega)
            have e : nth rr.v j = rr.v[j] := by simp [nth, hj]
            rw [e] at h3
            unfold I64
            omega
          · rw [h1]; unfold I64; omega
        have hbs := Lib.hid (below_set hbz hgB a (.int .i64 (z + s)))
        rw [hgp, hvl] at hco
        clear hcn HZ
        go_wp2_with fail
        go_region
        have R9 := HW1.out.keep ((Below.refl _ (wr.setCell ⟨g, a, none⟩ (.int .i64 (z + s)))).drew)
        have b9 := hbs.out.drew
        clear HW1 hbs hcx hfx hco hown hnw hbz hzb
        generalize (wr.setCell ⟨g, a, none⟩ (.int .i64 (z + s))).drew = Z at R9 b9 ⊢
        obtain ⟨⟨bo', hbo', -, hco⟩, hnw⟩ := R9.at HW3.out
        cases hbo'
        have hix := Lib.hid (hnw.ints HW6.out (by rw [List.length_set]; omega))
        have B9 := B.keep b9
        have hB0 := B9.c0
        have hB1 := B9.c1
        have ib9 := Lib.hid (ib.keep b9)
        have jb9 := Lib.hid (jb.keep b9)
        have R9 := Lib.hid R9
        have hvs : Hid (lo.length = (rr.v.set a (z + s)).length) := by rw [Hid, List.length_set]; exact hvl.symm
        dsimp only at hco
        rw [hgp, List.length_set] at hco
        dsimp only at hix
        rw [hgp] at hix
        have hkz' : (k : Int) < (rs.length : Int) := by omega
        clear hnw
        go_upto_region 16 with fail
        go_still_tail 5, (by kernel_rfl)
        change wpList _ _ _ _ _ Z.drew
        refine ?_
        have R10 := Lib.hid (R9.out.keep ((Below.refl _ Z).drew))
        have b10 := b9.drew
        have ib10 := Lib.hid (ib9.out.keep ((Below.refl _ Z).drew))
        have jb10 := Lib.hid (jb9.out.keep ((Below.refl _ Z).drew))
        have hix10 := Lib.hid (hix.out.keep ((Below.refl _ Z).drew))
        clear R9 b9 ib9 jb9 hix hB0 hB1 hco B9
        generalize Z.drew = Z2 at R10 b10 ib10 jb10 hix10 ⊢
        go_wp2_with fail
        refine (boxHas_n p1 p2 (some ⟨g, 0, none⟩) k1 k2 rr.c lo2 hi2' (rr.v.set a (z + s)) _ _ _ LL1.out.symm LL2.out.symm hvs.out true HW5.out (by have := LL1.out; have := LL2.out; have := LA.out; omega) _ ib10.out jb10.out hix10.out).mono ?_
        rintro e9 w9 ⟨rfl, hb9⟩
        have R11 := R10.out.keep hb9
        have b11 := below_t b10 hb9
        clear R10 b10 ib10 jb10 hix10 hb9
        go_wp2_with fail
        go_roundw
        case rel => exact ⟨k + 1, _, by omega, by go_num, ⟨HW4.out, R11, HW2.out⟩, b11⟩
        case measure => simp [intOf]; omega
      · have hk1 : ¬ (k : Int) < (rs.length : Int) := by omega
        have B9 := B.keep hbz
        have hB0 := B9.c0
        have hB1 := B9.c1
        have ib9 := Lib.hid (ib.keep hbz)
        have jb9 := Lib.hid (jb.keep hbz)
        have hV : Hid (FullX lo2 hi2' → vol lo2 hi2' lo2.length ≤ 9000000000000000000) := vol_small (by have := LL1.out; have := FA.out.2.1; omega) fun j hj => by
          have hjl : j < lo.length := by have := LL1.out; omega
          have := FA.out.2.2.1 j hjl
          unfold NearX at this
          rw [← HLO.out, ← HHI.out, nth_setX ha, nth_setX ha', ← HX.out, ← HY.out]
          by_cases e : j = a
          · subst e
            rw [if_pos rfl, if_pos rfl]
            omega
          · rw [if_neg e, if_neg e]
            omega
        have hcv : Hid (countX lo2 hi2' = countX lo hi) := by
          have := shift_count (b := s) ha ha'
          rw [HX.out, HY.out, HLO.out, HHI.out] at this
          exact this
        have hbw := below_t hb hbz
        obtain ⟨v, hv⟩ : ∃ v, countX lo hi = v := ⟨_, rfl⟩
        have hcv2 : Hid (countX lo2 hi2' = v) := by rw [Hid, hcv.out, hv]
        have hce : (v == (rs.length : Int)) = true := by rw [← hv]; exact hcn.out
        clear hcn HZ hbz B9 hcv hv
        go_wp2_with fail
        clear hB0 hB1
        refine (BoxSize_is p1 p2 k1 k2 lo2 hi2' _ _ LL1.out.symm LL2.out.symm v hcv2.out (by have := LL1.out; have := LL2.out; have := LA.out; omega) hV.out _ ib9.out jb9.out).mono ?_
        rintro e9 w9 ⟨rfl, hb9⟩
        have hbw := below_t hbw hb9
        go_wp2_with fail
        go_ret
        exact ⟨rfl, hbw⟩
  · rw [if_neg hok] at hret
    subst hret
    have hno : x + s < 0 ∨ 65536 < y + s := Classical.byContradiction fun hc => hok (hsok.2 hc)
    have hba := below_alloc w3 (.cells #[.slice none 0 0, .slice none 0 0] 67)
    have e1 := (hba.cell (p := ⟨bl, ol + a, none⟩) hbl).trans ca
    have e2 := (hba.cell (p := ⟨bh, oh + a, none⟩) hbh).trans cb
    have A := A.keep hba
    have hA0 := A.c0
    have hA1 := A.c1
    have hb := below_t hb hba
    clear hba
    clear hok hsok h h' A ca cb hbl hbh
    by_cases g1 : x + s < 0
    · have g1 : decide (x + s < 0) = true := decide_eq_true g1
      clear hno
      go_wp2_with fail
      go_ret
      exact ⟨rfl, hb⟩
    · have g2 : decide (65536 < y + s) = true := decide_eq_true (by omega)
      have g1 : decide (x + s < 0) = false := decide_eq_false g1
      clear hno
      go_wp2_with fail
      go_ret
      exact ⟨rfl, hb⟩
end Go.Proofs.Ythkfjdhakbjllaa
