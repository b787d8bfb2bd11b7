/- All indices of a range, in the reference. No condition beyond what each says. -/
import Derived.Test.YthkfjiioekhkhaaOdo3
namespace Go.Proofs.Ythkfjiioekhkhaa
open Go.RowKit Go.Shelf
set_option linter.unusedVariables false
set_option linter.unusedSimpArgs false

/-- a row whose first i numbers are moved -/
def shX (lo r : List Int) (i : Nat) : List Int := (List.range r.length).map fun j => if j < i then nth r j + nth lo j else nth r j
theorem shX_len {lo r : List Int} {i : Nat} : (shX lo r i).length = r.length := by simp [shX]
theorem shX_nth {lo r : List Int} {i j : Nat} (hj : j < r.length) : nth (shX lo r i) j = if j < i then nth r j + nth lo j else nth r j := by
  have h := nth_get? (xs := shX lo r i) (k := j) (by rw [shX_len]; exact hj)
  unfold shX at h
  rw [List.getElem?_map, List.getElem?_range hj] at h
  simpa [shX] using h.symm
theorem nth_setX {xs : List Int} {i j : Nat} {x : Int} (hi : i < xs.length) : nth (xs.set i x) j = if j = i then x else nth xs j := by
  unfold nth
  rw [List.getD_eq_getElem?_getD, List.getD_eq_getElem?_getD, List.getElem?_set]
  by_cases h : i = j
  · subst h
    simp [hi]
  · rw [if_neg h, if_neg (fun e => h e.symm)]
theorem shX_zero {lo r : List Int} : shX lo r 0 = r := nth_ext shX_len fun j hj => by
  rw [shX_len] at hj
  rw [shX_nth hj, if_neg (by omega)]
theorem shX_next {lo r : List Int} {i : Nat} (hi : i < r.length) : (shX lo r i).set i (nth r i + nth lo i) = shX lo r (i + 1) :=
  nth_ext (by rw [List.length_set, shX_len, shX_len]) fun j hj => by
    rw [List.length_set, shX_len] at hj
    rw [nth_setX (by rw [shX_len]; exact hi), shX_nth hj, shX_nth hj]
    by_cases h : j = i
    · subst h
      rw [if_pos rfl, if_pos (by omega)]
    · rw [if_neg h]
      by_cases h2 : j < i
      · rw [if_pos h2, if_pos (by omega)]
      · rw [if_neg h2, if_neg (by omega)]
theorem shX_all {lo r : List Int} (h : r.length = lo.length) : shX lo r r.length = addX lo r :=
  nth_ext (by rw [shX_len]; unfold addX; rw [mix_len (by omega)]) fun j hj => by
    rw [shX_len] at hj
    rw [shX_nth hj, if_pos hj]
    exact (mix_nth (op := (· + ·)) hj (by omega)).symm
/-- a row of a list of rows is written -/
theorem RowsAt.write {B : Nat} {w : World} {p : Option Addr} {rs : List RowV} (h : RowsAt B w p rs) {k : Nat} {r : RowV} (hk : rs[k]? = some r) {i g : Nat} (hi : i < r.v.length) (hg : r.p = some ⟨g, 0, none⟩) (x : Int) :
    RowsAt B (w.setCell ⟨g, i, none⟩ (.int .i64 x)) p (rs.set k ⟨r.p, r.c, r.v.set i x⟩) := by
  have hne : r.v ≠ [] := fun e => by rw [e] at hi; simp at hi
  have hkl : k < rs.length := (List.getElem?_eq_some_iff.1 hk).1
  have hown : B ≤ g ∧ Own w g 3 (r.v.map (.int .i64)) := by
    rcases h.rows.new r (List.mem_of_getElem? hk) with h' | ⟨g', hp', hB, ho⟩
    · exact (hne (by simpa using h')).elim
    · rw [hg] at hp'
      cases hp'
      exact ⟨hB, ho⟩
  refine ⟨?_, ?_, ?_⟩
  · have e : (rs.set k ⟨r.p, r.c, r.v.set i x⟩).map RowV.cell = rs.map RowV.cell := by
      rw [List.map_set]
      apply List.ext_getElem?
      intro j
      rw [List.getElem?_set]
      split
      · next hj =>
        subst hj
        rw [List.getElem?_map, hk]
        simp [RowV.cell, hkl]
      · rfl
    rw [e]
    rcases h.list with h' | ⟨b, hp, hB, ho⟩
    · exact .inl h'
    · refine .inr ⟨b, hp, hB, ho.other ?_ _⟩
      intro e
      change g = b at e
      subst e
      obtain ⟨_, o1⟩ := ho
      obtain ⟨_, o2⟩ := hown.2
      rw [o1] at o2
      simp at o2
  · intro y hy
    obtain ⟨j, hj⟩ := List.mem_iff_getElem?.1 hy
    rw [List.getElem?_set] at hj
    by_cases hjk : k = j
    · subst hjk
      rw [if_pos rfl, if_pos hkl] at hj
      cases hj
      refine .inr ⟨g, hg, hown.1, ?_⟩
      rw [List.map_set]
      exact hown.2.set (by rw [List.length_map]; exact hi) _
    · rw [if_neg hjk] at hj
      rcases h.rows.new y (List.mem_of_getElem? hj) with h' | ⟨g', hp', hB, ho⟩
      · exact .inl h'
      · by_cases hy0 : y.v = []
        · exact .inl (by simp [hy0])
        · refine .inr ⟨g', hp', hB, ho.other ?_ _⟩
          intro e
          change g = g' at e
          subst e
          rcases Nat.lt_or_ge k j with hlt | hge
          · exact h.rows.apart k j hlt r y hk hj hne hy0 (hg.trans hp'.symm)
          · exact h.rows.apart j k (by omega) y r hj hk hy0 hne (hp'.trans hg.symm)
  · have hget : ∀ (j : Nat) (a : RowV), (rs.set k ⟨r.p, r.c, r.v.set i x⟩)[j]? = some a → ∃ a' : RowV, rs[j]? = some a' ∧ a'.p = a.p ∧ (a.v ≠ [] → a'.v ≠ []) := by
      intro j a ha
      rw [List.getElem?_set] at ha
      by_cases hjk : k = j
      · subst hjk
        rw [if_pos rfl, if_pos hkl] at ha
        cases ha
        exact ⟨r, hk, rfl, fun _ => hne⟩
      · rw [if_neg hjk] at ha
        exact ⟨a, ha, rfl, fun h => h⟩
    intro i' j' hij a b ha hb hav hbv
    obtain ⟨a', ha', ea, na⟩ := hget _ _ ha
    obtain ⟨b', hb', eb, nb⟩ := hget _ _ hb
    rw [← ea, ← eb]
    exact h.rows.apart i' j' hij a' b' ha' hb' (na hav) (nb hbv)
set_option maxRecDepth 100000 in
set_option maxHeartbeats 4000000 in
theorem RefBetween_any (p q : Option Addr) (c f : Nat) (lo hi : List Int) (hle : lo.length ≤ hi.length) (hl : lo.length ≤ 1000000) (hd : ∀ j, j < lo.length → NearX lo hi j) (hb : ∀ k, k ≤ lo.length → (allX ((dimsX lo hi).take k)).length ≤ 1000000) (w : World) (h : Ints w p lo) (h' : Ints w q hi) :
    Calls Try.prog 14 #[.slice p lo.length c, .slice q hi.length f] w (RowsRet (betX lo hi) w) := by
  have HB := Lib.hid hb
  have HD := Lib.hid hd
  have HDL : Hid ((dimsX lo hi).length = lo.length) := dims_len hle
  clear hb hd
  go_enter Try.func14, Try.ntmps14
  go_wp2_with fail
  refine (RefDims4_any p q c f lo hi hle hl HD.out w h h').mono ?_
  rintro e1 w1 ⟨⟨r1, c1, rfl, n1⟩, hb1⟩
  have i1 : Ints w1 r1 (dimsX lo hi) := n1.ints (by
    intro x hx
    obtain ⟨j, hj, rfl⟩ := List.mem_iff_getElem.1 hx
    have e : (dimsX lo hi)[j] = nth (dimsX lo hi) j := by simp [nth, hj]
    rw [HDL.out] at hj
    rw [e, dims_nth hle hj]
    have := HD.out j hj
    unfold NearX at this
    unfold dmI I64
    split <;> omega) (by rw [HDL.out]; omega)
  go_wp2_with fail
  refine (RefAll_any r1 c1 (dimsX lo hi) (by rw [HDL.out]; exact hl) (fun k hk => HB.out k (by rw [HDL.out] at hk; exact hk)) w1 i1).mono ?_
  rintro e2 w2 ⟨⟨po, co, rs, rfl, hro, hrv⟩, hb2⟩
  have hro := hro.mono hb1.size
  have hbw := below_t hb1 hb2
  have HRV := Lib.hid hrv
  have HN : Hid (rs.length ≤ 1000000) := by
    have := HB.out lo.length (Nat.le_refl _)
    rw [List.take_of_length_le (by rw [HDL.out]; omega), ← HRV.out, List.length_map] at this
    exact this
  clear hb1 hb2 i1 n1 hrv
  rename World => W
  go_wp2_with fail
  go_loopw [6] (fun k wr => ∃ (j : Nat) (rz : List RowV), j ≤ rs.length ∧ k = .int .i64 j ∧ Hid (rz.length = rs.length ∧ RowsAt w.heap.size wr po rz ∧ rz.map RowV.v = ((allX (dimsX lo hi)).take j).map (addX lo) ++ (allX (dimsX lo hi)).drop j) ∧ Below w.heap.size w wr) (fun k _ => rs.length - (intOf k).toNat)
  case atStart => exact ⟨0, rs, Nat.zero_le _, rfl, ⟨rfl, hro, by simpa using HRV.out⟩, hbw⟩
  case round =>
    obtain ⟨j, rz, hj, rfl, HZ, hbz⟩ := hrel
    have hnr := HN.out
    by_cases hjl : j < rs.length
    · have hj1 : (j : Int) < (rs.length : Int) := by omega
      have hjL : j < (allX (dimsX lo hi)).length := by rw [← HRV.out, List.length_map]; exact hjl
      obtain ⟨r, hr⟩ : ∃ r, (allX (dimsX lo hi))[j]? = some r := ⟨_, List.getElem?_eq_getElem hjL⟩
      have HJ := Lib.hid hr
      obtain ⟨m1, m2⟩ := allX_mem.1 (List.mem_of_getElem? hr)
      have HM1 : Hid (r.length = lo.length) := m1.trans HDL.out
      have HM2 : Hid (∀ i, i < lo.length → 0 ≤ nth r i ∧ nth r i ≤ 2000) := by
        intro i hi'
        have h1 := m2 i (by rw [HDL.out]; exact hi')
        have h2 := HD.out i hi'
        unfold NearX at h2
        rw [dims_nth hle hi'] at h1
        unfold dmI at h1
        split at h1 <;> omega
      have HD0 : Hid ((allX (dimsX lo hi)).drop j = r :: (allX (dimsX lo hi)).drop (j + 1)) := by
        have h2 := List.drop_eq_getElem_cons hjL
        rw [List.getElem?_eq_getElem hjL] at hr
        rw [Hid, h2, Option.some.inj hr]
      clear hr m1 m2 hjL
      go_wp2_with fail
      go_loopw [7] (fun i wr => ∃ (i' : Nat) (rz : List RowV), i' ≤ lo.length ∧ i = .int .i64 i' ∧ Hid (rz.length = rs.length ∧ RowsAt w.heap.size wr po rz ∧ rz.map RowV.v = ((allX (dimsX lo hi)).take j).map (addX lo) ++ shX lo r i' :: (allX (dimsX lo hi)).drop (j + 1)) ∧ Below w.heap.size w wr) (fun i _ => lo.length - (intOf i).toNat)
      case atStart => exact ⟨0, rz, Nat.zero_le _, rfl, ⟨HZ.out.1, HZ.out.2.1, by rw [HZ.out.2.2, HD0.out, shX_zero]⟩, hbz⟩
      case round =>
        obtain ⟨i, ry, hib, rfl, HY, hby⟩ := hrel
        clear HZ hbz
        have hN := h'.small
        by_cases hil : i < lo.length
        · have hi1 : (i : Int) < (lo.length : Int) := by omega
          have hjy : j < ry.length := by rw [HY.out.1]; exact hjl
          obtain ⟨rr, hrr⟩ : ∃ rr, ry[j]? = some rr := ⟨_, List.getElem?_eq_getElem hjy⟩
          have hv : rr.v = shX lo r i := by
            have h1 := congrArg (fun l => l[j]?) HY.out.2.2
            have hlA : (((allX (dimsX lo hi)).take j).map (addX lo)).length = j := by
              rw [List.length_map, List.length_take]
              have : (allX (dimsX lo hi)).length = rs.length := by rw [← HRV.out, List.length_map]
              omega
            rw [List.getElem?_map, hrr, List.getElem?_append_right (by omega), hlA] at h1
            simpa using h1
          obtain ⟨⟨bo, rfl, hbo, hco⟩, hnw⟩ := HY.out.2.1.at hrr
          have hvl : rr.v.length = lo.length := by rw [hv, shX_len]; exact HM1.out
          obtain ⟨g, hgp, hgB, hown⟩ : ∃ g, rr.p = some ⟨g, 0, none⟩ ∧ w.heap.size ≤ g ∧ Own wr g 3 (rr.v.map (.int .i64)) := by
            rcases hnw with h0 | h0
            · have : rr.v = [] := by simpa using h0
              rw [this] at hvl
              simp at hvl
              omega
            · exact h0
          obtain ⟨x, hx⟩ : ∃ x, nth r i = x := ⟨_, rfl⟩
          obtain ⟨y, hy⟩ : ∃ y, nth lo i = y := ⟨_, rfl⟩
          have hcx : wr.cell? ⟨g, i, none⟩ = some (.int .i64 x) := hown.cell (by
            rw [List.getElem?_map, nth_get? (by rw [hvl]; exact hil), hv, shX_nth (by rw [HM1.out]; exact hil), if_neg (by omega), hx]
            rfl)
          have hfx := hown.frozen i
          obtain ⟨bl, ol, rfl, hbl, hcl⟩ := (h.keep hby).at hil
          rw [hy] at hcl
          have hw : wrap64 (x + y) = x + y := by
            have h1 := HM2.out i hil
            have h2 := HD.out i hil
            unfold NearX at h2
            rw [hx] at h1
            rw [hy] at h2
            exact wrap64_id (by omega) (by omega)
          have HS : Hid (RowsAt w.heap.size (wr.setCell ⟨g, i, none⟩ (.int .i64 (x + y))) (some ⟨bo, 0, none⟩) (ry.set j ⟨rr.p, rr.c, rr.v.set i (x + y)⟩)) := HY.out.2.1.write hrr (by rw [hvl]; exact hil) hgp (x + y)
          have HS2 : Hid ((ry.set j ⟨rr.p, rr.c, rr.v.set i (x + y)⟩).map RowV.v = ((allX (dimsX lo hi)).take j).map (addX lo) ++ shX lo r (i + 1) :: (allX (dimsX lo hi)).drop (j + 1)) := by
            have hlA : (((allX (dimsX lo hi)).take j).map (addX lo)).length = j := by
              rw [List.length_map, List.length_take]
              have : (allX (dimsX lo hi)).length = rs.length := by rw [← HRV.out, List.length_map]
              omega
            rw [Hid, List.map_set, HY.out.2.2, List.set_append_right _ _ (by omega), hlA, Nat.sub_self, List.set_cons_zero]
            show _ ++ (rr.v.set i (x + y)) :: _ = _
            rw [hv, ← hx, ← hy, shX_next (by rw [HM1.out]; exact hil)]
          have hbs := below_set hby hgB i (.int .i64 (x + y))
          rw [hgp, hvl] at hco
          have hBS := Lib.hid hbs
          have hlen : (ry.set j ⟨rr.p, rr.c, rr.v.set i (x + y)⟩).length = rs.length := by rw [List.length_set]; exact HY.out.1
          have HLen := Lib.hid hlen
          clear hlen hbs hv hvl hgp hown hnw hx hy hrr hjy hgB
          go_wp2_with fail
          go_region
          go_wp2
          go_roundw
          case rel => exact ⟨i + 1, _, by omega, by go_num, ⟨HLen.out, HS.out.keep ((Below.refl _ _).drew), HS2.out⟩, hBS.out.drew⟩
          case measure => simp [intOf]; omega
        · have hi1 : ¬ (i : Int) < (lo.length : Int) := by omega
          have hie : i = lo.length := by omega
          have HE : Hid (ry.map RowV.v = ((allX (dimsX lo hi)).take (j + 1)).map (addX lo) ++ (allX (dimsX lo hi)).drop (j + 1)) := by
            rw [Hid, HY.out.2.2, hie, ← HM1.out, shX_all HM1.out, List.take_add_one, HJ.out]
            simp
          clear hie
          go_wp2_with fail
          go_roundw
          case rel => exact ⟨j + 1, ry, by omega, by go_num, ⟨HY.out.1, HY.out.2.1, HE.out⟩, hby⟩
          case measure => simp [intOf]; omega
    · have hj1 : ¬ (j : Int) < (rs.length : Int) := by omega
      have HE : Hid (rz.map RowV.v = betX lo hi) := by
        have hL : (allX (dimsX lo hi)).length = rs.length := by rw [← HRV.out, List.length_map]
        rw [Hid, HZ.out.2.2, List.take_of_length_le (by omega), List.drop_eq_nil_of_le (by omega), List.append_nil]
        rfl
      go_wp2_with fail
      go_ret
      exact ⟨⟨po, co, rz, by rw [HZ.out.1]; rfl, HZ.out.2.1, HE.out⟩, hbz⟩
end Go.Proofs.Ythkfjiioekhkhaa
