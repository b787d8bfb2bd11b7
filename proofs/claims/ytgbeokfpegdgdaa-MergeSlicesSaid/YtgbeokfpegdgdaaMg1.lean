/- Boxes of the reference for a seat without package shape: right, small, the same. No condition beyond what each says. -/
import Derived.Test.YtgbeokfpegdgdaaMg0
namespace Go.Proofs.Ytgbeokfpegdgdaa
open Go.RowKit Go.Shelf
set_option linter.unusedVariables false
set_option linter.unusedSimpArgs false

def RightX (lo hi : List Int) : Prop := lo.length = hi.length ∧ lo.length ≤ 16 ∧ ∀ j, j < lo.length → 0 ≤ nth lo j ∧ nth lo j ≤ nth hi j ∧ nth hi j ≤ 65536
instance (lo hi : List Int) : Decidable (RightX lo hi) := inferInstanceAs (Decidable (_ ∧ _))
def rightX (lo hi : List Int) : Bool := decide (RightX lo hi)
theorem rightX_no {lo hi : List Int} (h : ¬ RightX lo hi) : rightX lo hi = false := decide_eq_false h
theorem rightX_yes {lo hi : List Int} (h : RightX lo hi) : rightX lo hi = true := decide_eq_true h
theorem RefBoxRight_any (p q : Option Addr) (c f : Nat) (lo hi : List Int) (w : World) (h : Ints w p lo) (h' : Ints w q hi) :
    Calls Try.prog 13 #[.agg #[.slice p lo.length c, .slice q hi.length f]] w fun e w' => e = .returned (.bool (rightX lo hi)) ∧ Below w.heap.size w w' := by
  have hn := h.small
  have hn' := h'.small
  have hba := below_alloc w (.cells #[.slice p lo.length c, .slice q hi.length f] 24)
  have h1 := h.keep hba
  have h2 := h'.keep hba
  by_cases hlen : lo.length = hi.length
  · have hlb : ((lo.length : Int) != (hi.length : Int)) = false := by simp [hlen]
    have Hlen := Lib.hid hlen
    have hle : lo.length ≤ hi.length := by omega
    clear hlen
    by_cases h16 : lo.length ≤ 16
    · have hd : decide ((16 : Int) < (lo.length : Int)) = false := by simp; omega
      go_enter Try.func13, Try.ntmps13
      go_wp2_with fail
      go_loopw [3] (fun i wr => ∃ k m : Nat, k ≤ lo.length ∧ i = .int .i64 k ∧ wr = (w.alloc (.cells #[.slice p lo.length c, .slice q hi.length f] 24)).drewN m ∧ Hid (∀ j, j < k → 0 ≤ nth lo j ∧ nth lo j ≤ nth hi j ∧ nth hi j ≤ 65536)) (fun i _ => lo.length - (intOf i).toNat)
      case atStart => exact ⟨0, 0, Nat.zero_le _, rfl, rfl, fun j hj => by omega⟩
      case round =>
        obtain ⟨k, m, hk, rfl, rfl, hI⟩ := hrel
        have hbd := fun n => below_t hba (below_drewN _ (w.alloc (.cells #[.slice p lo.length c, .slice q hi.length f] 24)) n)
        by_cases hlt : k < lo.length
        · have hlt' : k < hi.length := by omega
          obtain ⟨b1, o1, rfl, -, hc⟩ := h1.at hlt
          obtain ⟨b2, o2, rfl, -, hc'⟩ := h2.at hlt'
          have hi1 : (k : Int) < (lo.length : Int) := by omega
          have hi2 : (k : Int) < (hi.length : Int) := by omega
          obtain ⟨x, hx⟩ : ∃ x, nth lo k = x := ⟨_, rfl⟩
          obtain ⟨y, hy⟩ : ∃ y, nth hi k = y := ⟨_, rfl⟩
          have HX := Lib.hid hx
          have HY := Lib.hid hy
          rw [hx] at hc
          rw [hy] at hc'
          clear hx hy
          by_cases hg : 0 ≤ x ∧ x ≤ y ∧ y ≤ 65536
          · have d1 : decide (x < 0) = false := by simp; omega
            have d2 : decide (y < x) = false := by simp; omega
            have d3 : decide (65536 < y) = false := by simp; omega
            have HN : Hid (∀ j, j < k + 1 → 0 ≤ nth lo j ∧ nth lo j ≤ nth hi j ∧ nth hi j ≤ 65536) := fun j hj => by
              by_cases hjk : j = k
              · subst hjk
                rw [HX.out, HY.out]
                exact hg
              · exact hI.out j (by omega)
            clear hbd
            go_wp2
            go_quiet (fail)
            go_wp2
            go_roundw
            case rel => exact ⟨k + 1, _, by omega, by go_num, rfl, HN⟩
            case measure => simp [intOf]; omega
          · have HN : Hid (rightX lo hi = false) := rightX_no fun hr => hg (by have := hr.2.2 k hlt; rw [HX.out, HY.out] at this; exact this)
            by_cases g1 : x < 0
            · have d1 : decide (x < 0) = true := by simp; omega
              go_wp2
              go_quiet (fail)
              go_wp2
              go_ret
              exact ⟨ret_bool HN.out.symm, by first | exact hbd _ | exact below_t (hbd _) (below_drewN _ _ _)⟩
            · have d1 : decide (x < 0) = false := by simp; omega
              by_cases g2 : y < x
              · have d2 : decide (y < x) = true := by simp; omega
                go_wp2
                go_quiet (fail)
                go_wp2
                go_ret
                exact ⟨ret_bool HN.out.symm, by first | exact hbd _ | exact below_t (hbd _) (below_drewN _ _ _)⟩
              · have d2 : decide (y < x) = false := by simp; omega
                have d3 : decide (65536 < y) = true := by simp; omega
                go_wp2
                go_quiet (fail)
                go_wp2
                go_ret
                exact ⟨ret_bool HN.out.symm, by first | exact hbd _ | exact below_t (hbd _) (below_drewN _ _ _)⟩
        · have hi1 : ¬ (k : Int) < (lo.length : Int) := by omega
          have HN : Hid (rightX lo hi = true) := rightX_yes ⟨Hlen.out, h16, fun j hj => hI.out j (by omega)⟩
          go_wp2_with fail
          go_ret
          exact ⟨ret_bool HN.out.symm, hbd _⟩
    · have hd : decide ((16 : Int) < (lo.length : Int)) = true := by simp; omega
      have HN : Hid (rightX lo hi = false) := rightX_no fun hr => h16 hr.2.1
      go_enter Try.func13, Try.ntmps13
      go_wp2_with fail
      go_ret
      exact ⟨ret_bool HN.out.symm, hba⟩
  · have hlb : ((lo.length : Int) != (hi.length : Int)) = true := by simp; omega
    have HN : Hid (rightX lo hi = false) := rightX_no fun hr => hlen hr.1
    go_enter Try.func13, Try.ntmps13
    go_wp2_with fail
    go_ret
    exact ⟨ret_bool HN.out.symm, hba⟩
theorem wrap64_id {x : Int} (h1 : -9223372036854775808 ≤ x) (h2 : x ≤ 9223372036854775807) : wrap64 x = x := by unfold wrap64; omega
def FullX (lo hi : List Int) : Prop := ∀ j, j < lo.length → nth lo j < nth hi j
instance (lo hi : List Int) : Decidable (FullX lo hi) := inferInstanceAs (Decidable (∀ j, j < lo.length → nth lo j < nth hi j))
def sameX (a b c d : List Int) : Bool := eqS a c && eqS b d
theorem BoxSame_any (p q p' q' : Option Addr) (c f c' f' : Nat) (lo hi lo' hi' : List Int) (r : Bool) (hr : sameX lo hi lo' hi' = r) (w : World) (h1 : Ints w p lo) (h2 : Ints w q hi) (h3 : Ints w p' lo') (h4 : Ints w q' hi') :
    Calls Try.prog 18 #[.agg #[.slice p lo.length c, .slice q hi.length f], .agg #[.slice p' lo'.length c', .slice q' hi'.length f']] w fun e w' => e = .returned (.bool r) ∧ Below w.heap.size w w' := by
  have HR := Lib.hid hr
  clear hr
  have b1 := below_alloc w (.cells #[.slice p lo.length c, .slice q hi.length f] 24)
  have b2 := below_alloc (w.alloc (.cells #[.slice p lo.length c, .slice q hi.length f] 24)) (.cells #[.slice p' lo'.length c', .slice q' hi'.length f'] 24)
  have h1 := (h1.keep b1).keep b2
  have h2 := (h2.keep b1).keep b2
  have h3 := (h3.keep b1).keep b2
  have h4 := (h4.keep b1).keep b2
  cases hs : eqS lo lo' with
  | false =>
    have HN : Hid (r = false) := by rw [← HR.out]; simp [Hid, sameX, hs]
    go_enter Try.func18, Try.ntmps18
    go_wp2_with fail
    refine (RefEqual_is lo lo' false hs _ _ _ _ _ h1 h3).mono ?_
    rintro e w' ⟨rfl, hb1⟩
    go_wp2_with fail
    go_ret
    exact ⟨ret_bool HN.out.symm, below_2 hb1⟩
  | true =>
    cases ht : eqS hi hi' with
    | false =>
      have HN : Hid (r = false) := by rw [← HR.out]; simp [Hid, sameX, ht]
      go_enter Try.func18, Try.ntmps18
      go_wp2_with fail
      refine (RefEqual_is lo lo' true hs _ _ _ _ _ h1 h3).mono ?_
      rintro e1 w1 ⟨rfl, hb1⟩
      have hb := below_2 hb1
      have hx1 : w1.cell? ⟨w.heap.size, 1, none⟩ = some (.slice q hi.length f) := (hb1.cell (p := ⟨w.heap.size, 1, none⟩) (by simp; omega)).trans (by simp [go_sem])
      have hx2 : w1.cell? ⟨w.heap.size + 1, 1, none⟩ = some (.slice q' hi'.length f') := (hb1.cell (p := ⟨w.heap.size + 1, 1, none⟩) (by simp)).trans (by simp [go_sem])
      have h2 := h2.keep hb1
      have h4 := h4.keep hb1
      clear hb1 h1 h3
      go_wp2_with fail
      refine (RefEqual_is hi hi' false ht _ _ _ _ _ h2 h4).mono ?_
      rintro e2 w2 ⟨rfl, hb2⟩
      go_wp2_with fail
      go_ret
      exact ⟨ret_bool HN.out.symm, below_t hb hb2⟩
    | true =>
      have HN : Hid (r = true) := by rw [← HR.out]; simp [Hid, sameX, hs, ht]
      go_enter Try.func18, Try.ntmps18
      go_wp2_with fail
      refine (RefEqual_is lo lo' true hs _ _ _ _ _ h1 h3).mono ?_
      rintro e1 w1 ⟨rfl, hb1⟩
      have hb := below_2 hb1
      have hx1 : w1.cell? ⟨w.heap.size, 1, none⟩ = some (.slice q hi.length f) := (hb1.cell (p := ⟨w.heap.size, 1, none⟩) (by simp; omega)).trans (by simp [go_sem])
      have hx2 : w1.cell? ⟨w.heap.size + 1, 1, none⟩ = some (.slice q' hi'.length f') := (hb1.cell (p := ⟨w.heap.size + 1, 1, none⟩) (by simp)).trans (by simp [go_sem])
      have h2 := h2.keep hb1
      have h4 := h4.keep hb1
      clear hb1 h1 h3
      go_wp2_with fail
      refine (RefEqual_is hi hi' true ht _ _ _ _ _ h2 h4).mono ?_
      rintro e2 w2 ⟨rfl, hb2⟩
      go_wp2_with fail
      go_ret
      exact ⟨ret_bool HN.out.symm, below_t hb hb2⟩
def NearX (lo hi : List Int) (j : Nat) : Prop := -1000 ≤ nth lo j ∧ -1000 ≤ nth hi j ∧ nth lo j ≤ 1000 ∧ nth hi j ≤ 1000
instance (lo hi : List Int) (j : Nat) : Decidable (NearX lo hi j) := inferInstanceAs (Decidable (_ ∧ _))
/-- the reference's count of a range, held below a limit -/
def fewN (lo hi : List Int) : Nat → Int
  | 0 => 1
  | k + 1 => min (fewN lo hi k) 1000000 * max (nth hi k - nth lo k) 1
theorem fewN_bd {lo hi : List Int} : ∀ k, (∀ j, j < k → NearX lo hi j) → 1 ≤ fewN lo hi k ∧ fewN lo hi k ≤ 2000000000
  | 0, _ => by simp [fewN]
  | k + 1, h => by
    have h1 := fewN_bd k fun j hj => h j (by omega)
    have h2 := h k (by omega)
    unfold NearX at h2
    obtain ⟨a, ha⟩ : ∃ a, min (fewN lo hi k) 1000000 = a := ⟨_, rfl⟩
    obtain ⟨b, hb⟩ : ∃ b, max (nth hi k - nth lo k) 1 = b := ⟨_, rfl⟩
    have a1 : 1 ≤ a ∧ a ≤ 1000000 := by omega
    have b1 : 1 ≤ b ∧ b ≤ 2000 := by omega
    have c1 : 1 * 1 ≤ a * b := Int.mul_le_mul a1.1 b1.1 (by omega) (by omega)
    have c2 : a * b ≤ 1000000 * 2000 := Int.mul_le_mul a1.2 b1.2 (by omega) (by omega)
    simp only [fewN]
    rw [ha, hb]
    omega
def FewX (lo hi : List Int) (most : Int) : Prop := lo.length = hi.length ∧ lo.length ≤ 5 ∧ (∀ j, j < lo.length → NearX lo hi j) ∧ (fewN lo hi lo.length ≤ most ∨ (¬ FullX lo hi ∧ fewN lo hi lo.length ≤ 100 * most))
instance (lo hi : List Int) (most : Int) : Decidable (FewX lo hi most) := inferInstanceAs (Decidable (_ ∧ _))

set_option maxHeartbeats 1000000 in
theorem RefFew4_any (p q : Option Addr) (c f : Nat) (lo hi : List Int) (most : Int) (hm : 0 ≤ most ∧ most ≤ 100000) (r : Bool) (hr : decide (FewX lo hi most) = r) (w : World) (h : Ints w p lo) (h' : Ints w q hi) :
    Calls Try.prog 15 #[.slice p lo.length c, .slice q hi.length f, .int .i64 most] w fun e w' => e = .returned (.bool r) ∧ Below w.heap.size w w' := by
  have hn := h.small
  have hn' := h'.small
  have HR := Lib.hid hr
  clear hr
  by_cases hlen : lo.length = hi.length
  · have hlb : ((lo.length : Int) != (hi.length : Int)) = false := by simp [hlen]
    have Hlen := Lib.hid hlen
    have hle : lo.length ≤ hi.length := by omega
    clear hlen
    by_cases h5 : lo.length ≤ 5
    · have hd : decide ((5 : Int) < (lo.length : Int)) = false := by simp; omega
      go_enter Try.func15, Try.ntmps15
      go_wp2_with fail
      go_loopw [7, 8, 9] (fun n b i wr => ∃ k m : Nat, k ≤ lo.length ∧ i = .int .i64 k ∧ wr = w.drewN m ∧ n = .int .i64 (fewN lo hi k) ∧ (∃ bb, b = .bool bb ∧ Hid (bb = !decide (∀ j, j < k → nth lo j < nth hi j))) ∧ Hid (∀ j, j < k → NearX lo hi j)) (fun _ _ i _ => lo.length - (intOf i).toNat)
      case atStart => exact ⟨0, 0, Nat.zero_le _, rfl, rfl, rfl, ⟨false, rfl, by simp [Hid]⟩, fun j hj => by omega⟩
      case round =>
        obtain ⟨k, m, hk, rfl, rfl, rfl, ⟨bb, rfl, hB⟩, hI⟩ := hrel
        have hbd := fun n => below_drewN w.heap.size w n
        by_cases hlt : k < lo.length
        · have hlt' : k < hi.length := by omega
          obtain ⟨b1, o1, rfl, -, hc⟩ := h.at hlt
          obtain ⟨b2, o2, rfl, -, hc'⟩ := h'.at hlt'
          have hi1 : (k : Int) < (lo.length : Int) := by omega
          have hi2 : (k : Int) < (hi.length : Int) := by omega
          obtain ⟨x, hx⟩ : ∃ x, nth lo k = x := ⟨_, rfl⟩
          obtain ⟨y, hy⟩ : ∃ y, nth hi k = y := ⟨_, rfl⟩
          have HX := Lib.hid hx
          have HY := Lib.hid hy
          rw [hx] at hc
          rw [hy] at hc'
          clear hx hy
          by_cases hg : -1000 ≤ x ∧ -1000 ≤ y ∧ x ≤ 1000 ∧ y ≤ 1000
          · have d1 : decide (x < -1000) = false := by simp; omega
            have d2 : decide (y < -1000) = false := by simp; omega
            have d3 : decide (1000 < x) = false := by simp; omega
            have d4 : decide (1000 < y) = false := by simp; omega
            have HN : Hid (∀ j, j < k + 1 → NearX lo hi j) := fun j hj => by
              by_cases hjk : j = k
              · subst hjk
                unfold NearX
                rw [HX.out, HY.out]
                exact hg
              · exact hI.out j (by omega)
            have hf := fewN_bd (lo := lo) (hi := hi) k hI.out
            have hf2 := fewN_bd (lo := lo) (hi := hi) (k + 1) HN.out
            simp only [fewN] at hf2
            rw [HX.out, HY.out] at hf2
            have HS : Hid (wrap64 ((if 1000000 < fewN lo hi k then 1000000 else fewN lo hi k) * if y - x < 1 then 1 else y - x) = fewN lo hi (k + 1)) := by
              unfold Hid
              rw [show (if 1000000 < fewN lo hi k then (1000000 : Int) else fewN lo hi k) = min (fewN lo hi k) 1000000 by omega, show (if y - x < 1 then (1 : Int) else y - x) = max (y - x) 1 by omega]
              rw [wrap64_id (by omega) (by omega)]
              simp only [fewN]
              rw [HX.out, HY.out]
            clear hf hf2 hbd
            obtain ⟨fk, hfk⟩ : ∃ fk, fewN lo hi k = fk := ⟨_, rfl⟩
            rw [hfk] at HS
            have HFK := Lib.hid hfk
            rw [hfk]
            clear hfk
            cases bb with
            | true =>
              have HB : Hid (true = !decide (∀ j, j < k + 1 → nth lo j < nth hi j)) := by
                unfold Hid
                have h1 := hB.out
                rw [eq_comm, Bool.not_eq_true', decide_eq_false_iff_not] at h1
                rw [eq_comm, Bool.not_eq_true', decide_eq_false_iff_not]
                exact fun ha => h1 fun j hj => ha j (by omega)
              go_wp2
              go_quiet (fail)
              go_wp2
              go_quiet (fail)
              go_wp2
              go_roundw
              case rel => exact ⟨k + 1, _, by omega, by go_num, rfl, by rw [HS.out], ⟨true, rfl, HB⟩, HN⟩
              case measure => simp [intOf]; omega
            | false =>
              obtain ⟨e, he⟩ : ∃ e, decide (y ≤ x) = e := ⟨_, rfl⟩
              have HB : Hid (e = !decide (∀ j, j < k + 1 → nth lo j < nth hi j)) := by
                unfold Hid
                rw [← he]
                have h1 := hB.out
                rw [eq_comm, Bool.not_eq_false', decide_eq_true_iff] at h1
                by_cases hyx : y ≤ x
                · rw [decide_eq_true hyx, eq_comm, Bool.not_eq_true', decide_eq_false_iff_not]
                  intro ha
                  have := ha k (by omega)
                  rw [HX.out, HY.out] at this
                  omega
                · rw [decide_eq_false hyx, eq_comm, Bool.not_eq_false', decide_eq_true_iff]
                  intro j hj
                  by_cases hjk : j = k
                  · subst hjk
                    rw [HX.out, HY.out]
                    omega
                  · exact h1 j (by omega)
              go_wp2
              go_quiet (fail)
              go_wp2
              go_quiet (fail)
              go_wp2
              go_roundw
              case rel => exact ⟨k + 1, _, by omega, by go_num, rfl, by rw [HS.out], ⟨e, rfl, HB⟩, HN⟩
              case measure => simp [intOf]; omega
          · have HN : Hid (r = false) := HR.out.symm.trans (decide_eq_false fun hr => hg (by have := hr.2.2.1 k hlt; unfold NearX at this; rw [HX.out, HY.out] at this; exact this))
            by_cases g1 : x < -1000
            · have d1 : decide (x < -1000) = true := by simp; omega
              go_wp2_with fail
              go_ret
              exact ⟨ret_bool HN.out.symm, hbd _⟩
            · have d1 : decide (x < -1000) = false := by simp; omega
              by_cases g2 : y < -1000
              · have d2 : decide (y < -1000) = true := by simp; omega
                go_wp2_with fail
                go_ret
                exact ⟨ret_bool HN.out.symm, hbd _⟩
              · have d2 : decide (y < -1000) = false := by simp; omega
                by_cases g3 : 1000 < x
                · have d3 : decide (1000 < x) = true := by simp; omega
                  go_wp2_with fail
                  go_ret
                  exact ⟨ret_bool HN.out.symm, hbd _⟩
                · have d3 : decide (1000 < x) = false := by simp; omega
                  have d4 : decide (1000 < y) = true := by simp; omega
                  go_wp2_with fail
                  go_ret
                  exact ⟨ret_bool HN.out.symm, hbd _⟩
        · have hi1 : ¬ (k : Int) < (lo.length : Int) := by omega
          have hke : k = lo.length := by omega
          have hf := fewN_bd (lo := lo) (hi := hi) k hI.out
          have hw : wrap64 (100 * most) = 100 * most := wrap64_id (by omega) (by omega)
          have hR : Hid (r = decide (fewN lo hi k ≤ most ∨ (bb = true ∧ fewN lo hi k ≤ 100 * most))) := by
            unfold Hid
            rw [← HR.out]
            refine decide_eq_decide.2 ⟨fun hx => ?_, fun hx => ?_⟩
            · rw [hke]
              rcases hx.2.2.2 with h1 | ⟨h1, h2⟩
              · exact .inl h1
              · refine .inr ⟨?_, h2⟩
                rw [hB.out, hke, Bool.not_eq_true', decide_eq_false_iff_not]
                exact h1
            · rw [hke] at hx
              refine ⟨Hlen.out, h5, fun j hj => hI.out j (by omega), ?_⟩
              rcases hx with h1 | ⟨h1, h2⟩
              · exact .inl h1
              · refine .inr ⟨?_, h2⟩
                rw [hB.out, hke, Bool.not_eq_true', decide_eq_false_iff_not] at h1
                exact h1
          obtain ⟨fk, hfk⟩ : ∃ fk, fewN lo hi k = fk := ⟨_, rfl⟩
          rw [hfk] at hR
          rw [hfk]
          clear hke hf hfk hI hB
          by_cases g1 : fk ≤ most
          · have d1 : decide (fk ≤ most) = true := decide_eq_true g1
            have HN : Hid (r = true) := hR.out.trans (decide_eq_true (.inl g1))
            go_wp2_with fail
            go_ret
            exact ⟨ret_bool HN.out.symm, hbd _⟩
          · have d1 : decide (fk ≤ most) = false := decide_eq_false g1
            cases bb with
            | false =>
              have HN : Hid (r = false) := hR.out.trans (decide_eq_false fun hx => by rcases hx with hx | ⟨hx, -⟩; exact g1 hx; cases hx)
              go_wp2_with fail
              go_ret
              exact ⟨ret_bool HN.out.symm, hbd _⟩
            | true =>
              by_cases g2 : fk ≤ 100 * most
              · have d2 : decide (fk ≤ 100 * most) = true := decide_eq_true g2
                have HN : Hid (r = true) := hR.out.trans (decide_eq_true (.inr ⟨rfl, g2⟩))
                go_wp2_with fail
                go_ret
                exact ⟨ret_bool HN.out.symm, hbd _⟩
              · have d2 : decide (fk ≤ 100 * most) = false := decide_eq_false g2
                have HN : Hid (r = false) := hR.out.trans (decide_eq_false fun hx => by rcases hx with hx | ⟨-, hx⟩; exact g1 hx; exact g2 hx)
                go_wp2_with fail
                go_ret
                exact ⟨ret_bool HN.out.symm, hbd _⟩
    · have hd : decide ((5 : Int) < (lo.length : Int)) = true := by simp; omega
      have HN : Hid (r = false) := HR.out.symm.trans (decide_eq_false fun hr => h5 hr.2.1)
      go_enter Try.func15, Try.ntmps15
      go_wp2_with fail
      go_ret
      exact ⟨ret_bool HN.out.symm, Below.refl _ _⟩
  · have hlb : ((lo.length : Int) != (hi.length : Int)) = true := by simp; omega
    have HN : Hid (r = false) := HR.out.symm.trans (decide_eq_false fun hr => hlen hr.1)
    go_enter Try.func15, Try.ntmps15
    go_wp2_with fail
    go_ret
    exact ⟨ret_bool HN.out.symm, Below.refl _ _⟩
def smallX (lo hi : List Int) (most : Int) : Bool := rightX lo hi && decide (FewX lo hi most)
theorem RefRight_is (p q : Option Addr) (c f : Nat) (lo hi : List Int) (r : Bool) (hr : rightX lo hi = r) (w : World) (h : Ints w p lo) (h' : Ints w q hi) :
    Calls Try.prog 13 #[.agg #[.slice p lo.length c, .slice q hi.length f]] w fun e w' => e = .returned (.bool r) ∧ Below w.heap.size w w' := hr ▸ RefBoxRight_any p q c f lo hi w h h'
theorem RefSmall6_any (p q : Option Addr) (c f : Nat) (lo hi : List Int) (most : Int) (hm : 0 ≤ most ∧ most ≤ 100000) (r : Bool) (hr : smallX lo hi most = r) (w : World) (h : Ints w p lo) (h' : Ints w q hi) :
    Calls Try.prog 6 #[.agg #[.slice p lo.length c, .slice q hi.length f], .int .i64 most] w fun e w' => e = .returned (.bool r) ∧ Below w.heap.size w w' := by
  have HR := Lib.hid hr
  clear hr
  have b1 := below_alloc w (.cells #[.slice p lo.length c, .slice q hi.length f] 24)
  have h1 := h.keep b1
  have h2 := h'.keep b1
  cases hs : rightX lo hi with
  | false =>
    have HN : Hid (r = false) := by rw [← HR.out]; simp [Hid, smallX, hs]
    go_enter Try.func6, Try.ntmps6
    go_wp2_with fail
    refine (RefRight_is _ _ _ _ lo hi false hs _ h1 h2).mono ?_
    rintro e1 w1 ⟨rfl, hb1⟩
    go_wp2_with fail
    go_ret
    exact ⟨ret_bool HN.out.symm, below_1 hb1⟩
  | true =>
    obtain ⟨b, hb⟩ : ∃ b, decide (FewX lo hi most) = b := ⟨_, rfl⟩
    have HN : Hid (r = b) := by rw [← HR.out]; simp [Hid, smallX, hs, ← hb]
    have HF := Lib.hid hb
    clear hb
    go_enter Try.func6, Try.ntmps6
    go_wp2_with fail
    refine (RefRight_is _ _ _ _ lo hi true hs _ h1 h2).mono ?_
    rintro e1 w1 ⟨rfl, hb1⟩
    have hb := below_1 hb1
    have hx0 : w1.cell? ⟨w.heap.size, 0, none⟩ = some (.slice p lo.length c) := (hb1.cell (p := ⟨w.heap.size, 0, none⟩) (by simp)).trans (by simp [go_sem])
    have hx1 : w1.cell? ⟨w.heap.size, 1, none⟩ = some (.slice q hi.length f) := (hb1.cell (p := ⟨w.heap.size, 1, none⟩) (by simp)).trans (by simp [go_sem])
    have h1 := h1.keep hb1
    have h2 := h2.keep hb1
    clear hb1
    go_wp2_with fail
    refine (RefFew4_any _ _ _ _ lo hi most hm b HF.out _ h1 h2).mono ?_
    rintro e2 w2 ⟨rfl, hb2⟩
    go_wp2_with fail
    go_ret
    exact ⟨ret_bool HN.out.symm, below_t hb hb2⟩
end Go.Proofs.Ytgbeokfpegdgdaa
