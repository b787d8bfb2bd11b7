/- The list of all indices of a range goes from each index to the following one. No condition; plain Lean. -/
import Derived.Test.YthkfjiioekhkhaaOdo4
namespace Go.Proofs.Ythkfjiioekhkhaa
open Go.RowKit Go.Shelf
set_option linter.unusedVariables false
set_option linter.unusedSimpArgs false

theorem stepA_get {d : Int} (hd : 0 < d.toNat) : ∀ (out : List (List Int)) (k : Nat), (stepA out d)[k]? = (out[k / d.toNat]?).map fun r => r ++ [((k % d.toNat : Nat) : Int)]
  | [], k => by simp [stepA]
  | r :: out, k => by
    have e : stepA (r :: out) d = ((List.range d.toNat).map fun (n : Nat) => r ++ [(n : Int)]) ++ stepA out d := by simp [stepA]
    rw [e]
    by_cases hk : k < d.toNat
    · rw [List.getElem?_append_left (by simpa using hk), Nat.div_eq_of_lt hk, Nat.mod_eq_of_lt hk, List.getElem?_map, List.getElem?_range hk]
      rfl
    · have e1 : k / d.toNat = (k - d.toNat) / d.toNat + 1 := Nat.div_eq_sub_div hd (by omega)
      have e2 : k % d.toNat = (k - d.toNat) % d.toNat := Nat.mod_eq_sub_mod (by omega)
      rw [List.getElem?_append_right (by simp; omega), List.length_map, List.length_range, stepA_get hd out (k - d.toNat), e1, e2, List.getElem?_cons_succ]
/-- b follows a, at place j: from numbers below s -/
def NextD (s a b : List Int) (n j : Nat) : Prop :=
  j < n ∧ (∀ i, i < j → nth b i = nth a i) ∧ nth b j = nth a j + 1 ∧ nth b j < nth s j ∧ ∀ i, j < i → i < n → nth a i + 1 = nth s i ∧ nth b i = 0
theorem divmod {k D q v : Nat} (hv : v < D) (h : k = q * D + v) : k / D = q ∧ k % D = v := by
  subst h
  have hD : 0 < D := by omega
  constructor
  · rw [Nat.mul_comm, Nat.mul_add_div hD, Nat.div_eq_of_lt hv, Nat.add_zero]
  · rw [Nat.mul_comm, Nat.mul_add_mod, Nat.mod_eq_of_lt hv]
theorem all_walk {s : List Int} : ∀ n, n ≤ s.length → (∀ a, (allX (s.take n))[0]? = some a → ∀ i, i < n → nth a i = 0) ∧
    (∀ k a b, (allX (s.take n))[k]? = some a → (allX (s.take n))[k + 1]? = some b → ∃ j, NextD s a b n j) ∧
    (∀ k a, (allX (s.take n))[k]? = some a → k + 1 = (allX (s.take n)).length → ∀ i, i < n → nth a i + 1 = nth s i)
  | 0, _ => by
    refine ⟨fun a _ i hi => by omega, fun k a b _ hb => ?_, fun k a _ _ i hi => by omega⟩
    simp [allX] at hb
  | n + 1, hn => by
    obtain ⟨h1, h2, h3⟩ := all_walk (s := s) n (by omega)
    have e : allX (s.take (n + 1)) = stepA (allX (s.take n)) (nth s n) := by rw [take_nth (xs := s) (k := n) (by omega), allX_snoc]
    have hmem : ∀ (q : Nat) (r : List Int), (allX (s.take n))[q]? = some r → r.length = n := fun q r hq => ((allX_take_mem (s := s) n (by omega) r).1 (List.mem_of_getElem? hq)).1
    rw [e]
    by_cases hd : 0 < (nth s n).toNat
    · obtain ⟨D, hD⟩ : ∃ D, (nth s n).toNat = D := ⟨_, rfl⟩
      have hDs : (D : Int) = nth s n := by omega
      have hD0 : 0 < D := by omega
      have get : ∀ (q v : Nat) (r : List Int), v < D → (allX (s.take n))[q]? = some r → (stepA (allX (s.take n)) (nth s n))[q * D + v]? = some (r ++ [(v : Int)]) := fun q v r hv hq => by
        obtain ⟨d1, d2⟩ := divmod hv rfl
        rw [stepA_get hd, hD, d1, d2, hq]
        rfl
      have back : ∀ (k : Nat) (a : List Int), (stepA (allX (s.take n)) (nth s n))[k]? = some a → ∃ (q v : Nat) (r : List Int), v < D ∧ k = q * D + v ∧ (allX (s.take n))[q]? = some r ∧ a = r ++ [(v : Int)] := fun k a hk => by
        rw [stepA_get hd, hD] at hk
        cases hq : (allX (s.take n))[k / D]? with
        | none => rw [hq] at hk; cases hk
        | some r =>
          rw [hq] at hk
          refine ⟨k / D, k % D, r, Nat.mod_lt _ hD0, ?_, hq, (Option.some.inj hk).symm⟩
          rw [Nat.mul_comm]
          exact (Nat.div_add_mod k D).symm
      refine ⟨fun a ha i hi => ?_, fun k a b ha hb => ?_, fun k a ha hl i hi => ?_⟩
      · obtain ⟨q, v, r, hv, hk, hq, rfl⟩ := back 0 a ha
        obtain ⟨d1, d2⟩ := divmod hv hk
        rw [Nat.zero_div] at d1
        rw [Nat.zero_mod] at d2
        subst d1 d2
        have hr := hmem _ _ hq
        by_cases hin : i = n
        · subst hin
          have := nth_app_last (a := r) (x := ((0 : Nat) : Int))
          rw [hr] at this
          simpa using this
        · rw [nth_app_lt (by omega)]
          exact h1 r hq i (by omega)
      · obtain ⟨q, v, r, hv, hk, hq, rfl⟩ := back k a ha
        obtain ⟨q', v', r', hv', hk', hq', rfl⟩ := back (k + 1) b hb
        have hr := hmem _ _ hq
        have hr' := hmem _ _ hq'
        by_cases hv1 : v + 1 < D
        · obtain ⟨d1, d2⟩ := divmod (k := k + 1) (q := q) hv1 (by omega)
          obtain ⟨d3, d4⟩ := divmod hv' hk'
          obtain rfl : q = q' := d1.symm.trans d3
          obtain rfl : v + 1 = v' := d2.symm.trans d4
          rw [hq] at hq'
          cases hq'
          refine ⟨n, by omega, fun i hi => by rw [nth_app_lt (by omega), nth_app_lt (by omega)], ?_, ?_, fun i hi hi' => by omega⟩
          · have e1 := nth_app_last (a := r) (x := ((v : Nat) : Int))
            have e2 := nth_app_last (a := r) (x := ((v + 1 : Nat) : Int))
            rw [hr] at e1 e2
            rw [e1, e2]
            omega
          · have e2 := nth_app_last (a := r) (x := ((v + 1 : Nat) : Int))
            rw [hr] at e2
            rw [e2]
            omega
        · obtain ⟨d1, d2⟩ := divmod (k := k + 1) (q := q + 1) (v := 0) hD0 (by rw [Nat.succ_mul]; omega)
          obtain ⟨d3, d4⟩ := divmod hv' hk'
          obtain rfl : q + 1 = q' := d1.symm.trans d3
          obtain rfl : 0 = v' := d2.symm.trans d4
          obtain ⟨j, n1, n2, n3, n4, n5⟩ := h2 q r r' hq hq'
          refine ⟨j, by omega, fun i hi => ?_, ?_, ?_, fun i hi hi' => ?_⟩
          · rw [nth_app_lt (by omega), nth_app_lt (by omega)]; exact n2 i hi
          · rw [nth_app_lt (by omega), nth_app_lt (by omega)]; exact n3
          · rw [nth_app_lt (by omega)]; exact n4
          · by_cases hin : i = n
            · subst hin
              have e1 := nth_app_last (a := r) (x := ((v : Nat) : Int))
              have e2 := nth_app_last (a := r') (x := ((0 : Nat) : Int))
              rw [hr] at e1
              rw [hr'] at e2
              rw [e1, e2]
              omega
            · rw [nth_app_lt (by omega), nth_app_lt (by omega)]
              exact n5 i hi (by omega)
      · obtain ⟨q, v, r, hv, hk, hq, rfl⟩ := back k a ha
        have hr := hmem _ _ hq
        rw [stepA_len, hD] at hl
        have hql := (List.getElem?_eq_some_iff.1 hq).1
        have hq1 : q + 1 = (allX (s.take n)).length := by
          rcases Nat.lt_or_ge (q + 1) (allX (s.take n)).length with hlt | hge
          · have := Nat.mul_le_mul_right D (show q + 2 ≤ (allX (s.take n)).length from hlt)
            rw [Nat.add_mul] at this
            omega
          · omega
        have hv1 : v + 1 = D := by
          rw [← hq1, Nat.add_mul] at hl
          omega
        by_cases hin : i = n
        · subst hin
          have e1 := nth_app_last (a := r) (x := ((v : Nat) : Int))
          rw [hr] at e1
          rw [e1]
          omega
        · rw [nth_app_lt (by omega)]
          exact h3 q r hq hq1 i (by omega)
    · have hnil : stepA (allX (s.take n)) (nth s n) = [] := List.eq_nil_of_length_eq_zero (by rw [stepA_len, show (nth s n).toNat = 0 by omega, Nat.mul_zero])
      rw [hnil]
      exact ⟨fun a ha => by simp at ha, fun k a b ha => by simp at ha, fun k a ha => by simp at ha⟩

theorem dm_pos {x y a : Int} (h0 : 0 ≤ a) (h : a < dmI x y) : dmI x y = y - x := by
  unfold dmI at h ⊢
  split at h <;> rename_i hc
  · omega
  · rw [if_neg hc]
/-- where the step stops: behind it all numbers are the last ones; its own one is not (J: one more than the place; 0: nowhere) -/
structure StopAt (lo hi a : List Int) (J : Nat) : Prop where
  le : J ≤ lo.length
  full : ∀ i, J ≤ i → i < lo.length → nth hi i ≤ nth a i + 1
  free : 0 < J → nth a (J - 1) + 1 < nth hi (J - 1)
/-- the numbers behind the step -/
def stepX (lo a : List Int) (J : Nat) : List Int := if J = 0 then lo else a.take (J - 1) ++ (nth a (J - 1) + 1) :: lo.drop J
theorem bet_get {lo hi : List Int} {k : Nat} {a : List Int} (h : (betX lo hi)[k]? = some a) : ∃ r, (allX (dimsX lo hi))[k]? = some r ∧ a = addX lo r := by
  unfold betX at h
  rw [List.getElem?_map] at h
  cases hr : (allX (dimsX lo hi))[k]? with
  | none => rw [hr] at h; cases h
  | some r => rw [hr] at h; exact ⟨r, rfl, (Option.some.inj h).symm⟩
theorem addX_len {lo r : List Int} (h : r.length = lo.length) : (addX lo r).length = lo.length := by unfold addX; rw [mix_len (by omega), h]
theorem addX_nth {lo r : List Int} (h : r.length = lo.length) {i : Nat} (hi : i < lo.length) : nth (addX lo r) i = nth r i + nth lo i := mix_nth (by omega) hi
theorem bet_in {lo hi : List Int} (hl : lo.length = hi.length) {a : List Int} (h : a ∈ betX lo hi) : a.length = lo.length ∧ ∀ i, i < lo.length → nth lo i ≤ nth a i ∧ nth a i < nth hi i := by
  unfold betX at h
  obtain ⟨r, hr, rfl⟩ := List.mem_map.1 h
  obtain ⟨m1, m2⟩ := allX_mem.1 hr
  rw [dims_len (by omega)] at m1 m2
  refine ⟨addX_len m1, fun i hi' => ?_⟩
  rw [addX_nth m1 hi']
  have := m2 i hi'
  rw [dims_nth (by omega) hi'] at this
  unfold dmI at this
  split at this <;> omega
theorem bet_first {lo hi : List Int} (hl : lo.length = hi.length) {a : List Int} (h : (betX lo hi)[0]? = some a) : a = lo := by
  obtain ⟨r, hr, rfl⟩ := bet_get h
  have m1 := (allX_mem.1 (List.mem_of_getElem? hr)).1
  rw [dims_len (by omega)] at m1
  have h1 := (all_walk (s := dimsX lo hi) (dimsX lo hi).length (Nat.le_refl _)).1 r (by rw [List.take_length]; exact hr)
  rw [dims_len (by omega)] at h1
  refine nth_ext (addX_len m1) fun j hj => ?_
  rw [addX_len m1] at hj
  rw [addX_nth m1 hj, h1 j hj, Int.zero_add]
theorem bet_last {lo hi : List Int} (hl : lo.length = hi.length) {k : Nat} {a : List Int} (h : (betX lo hi)[k]? = some a) (hk : k + 1 = (betX lo hi).length) : StopAt lo hi a 0 := by
  have hin := bet_in hl (List.mem_of_getElem? h)
  obtain ⟨r, hr, rfl⟩ := bet_get h
  obtain ⟨m1, m2⟩ := allX_mem.1 (List.mem_of_getElem? hr)
  rw [dims_len (by omega)] at m1 m2
  have hk' : k + 1 = (allX (dimsX lo hi)).length := by rw [hk]; unfold betX; rw [List.length_map]
  have h3 := (all_walk (s := dimsX lo hi) (dimsX lo hi).length (Nat.le_refl _)).2.2 k r (by rw [List.take_length]; exact hr) (by rw [List.take_length]; exact hk')
  rw [dims_len (by omega)] at h3
  refine ⟨Nat.zero_le _, fun i _ hi' => ?_, fun h => by omega⟩
  have h4 := h3 i hi'
  have h5 := m2 i hi'
  rw [dims_nth (by omega) hi'] at h4 h5
  rw [addX_nth m1 hi']
  rw [dm_pos h5.1 h5.2] at h4
  omega
theorem bet_next {lo hi : List Int} (hl : lo.length = hi.length) {k : Nat} {a b : List Int} (h : (betX lo hi)[k]? = some a) (h' : (betX lo hi)[k + 1]? = some b) : ∃ J, 0 < J ∧ StopAt lo hi a J ∧ stepX lo a J = b := by
  obtain ⟨r, hr, rfl⟩ := bet_get h
  obtain ⟨r', hr', rfl⟩ := bet_get h'
  obtain ⟨m1, m2⟩ := allX_mem.1 (List.mem_of_getElem? hr)
  obtain ⟨m1', m2'⟩ := allX_mem.1 (List.mem_of_getElem? hr')
  rw [dims_len (by omega)] at m1 m2 m1' m2'
  obtain ⟨j, n1, n2, n3, n4, n5⟩ := (all_walk (s := dimsX lo hi) (dimsX lo hi).length (Nat.le_refl _)).2.1 k r r' (by rw [List.take_length]; exact hr) (by rw [List.take_length]; exact hr')
  rw [dims_len (by omega)] at n1 n5
  have hdm : ∀ i, i < lo.length → nth (dimsX lo hi) i = nth hi i - nth lo i := fun i hi' => by
    have := m2 i hi'
    rw [dims_nth (by omega) hi'] at this ⊢
    exact dm_pos this.1 this.2
  rw [hdm j n1] at n4
  refine ⟨j + 1, by omega, ⟨by omega, fun i hi1 hi2 => ?_, fun _ => ?_⟩, ?_⟩
  · have := (n5 i (by omega) hi2).1
    rw [hdm i hi2] at this
    rw [addX_nth m1 hi2]
    omega
  · rw [Nat.add_sub_cancel, addX_nth m1 n1]
    omega
  · unfold stepX
    rw [if_neg (by omega), Nat.add_sub_cancel]
    have hla := addX_len m1
    have htl : ((addX lo r).take j).length = j := by rw [List.length_take]; omega
    have hlen : ((addX lo r).take j ++ (nth (addX lo r) j + 1) :: lo.drop (j + 1)).length = lo.length := by
      rw [List.length_append, List.length_cons, List.length_drop, htl]
      omega
    refine nth_ext (hlen.trans (addX_len m1').symm) fun i hi' => ?_
    rw [hlen] at hi'
    rw [addX_nth m1' hi']
    unfold nth
    rw [List.getD_eq_getElem?_getD]
    by_cases h1 : i < j
    · rw [List.getElem?_append_left (by omega), List.getElem?_take_of_lt h1]
      have e1 := addX_nth m1 hi'
      have e2 := n2 i h1
      unfold nth at e1 e2
      rw [e2, ← e1, List.getD_eq_getElem?_getD]
    · rw [List.getElem?_append_right (by omega), htl]
      by_cases h2 : i = j
      · subst h2
        rw [Nat.sub_self, List.getElem?_cons_zero]
        have e1 := addX_nth m1 hi'
        unfold nth at e1 n3
        rw [Option.getD_some, e1, n3]
        omega
      · obtain ⟨t, ht⟩ : ∃ t, i - j = t + 1 := ⟨i - j - 1, by omega⟩
        have hj2 : j + 1 + t = i := by omega
        rw [ht, List.getElem?_cons_succ, List.getElem?_drop, hj2]
        have e2 := (n5 i (by omega) hi').2
        unfold nth at e2
        rw [e2, Int.zero_add, List.getD_eq_getElem?_getD]
end Go.Proofs.Ythkfjiioekhkhaa
