/- Boxes: two lists of numbers; which are right, which are empty, how many cells. No condition beyond what each says. -/
import Derived.Test.YthkfjdhakbjllaaAid
namespace Go.Proofs.Ythkfjdhakbjllaa
open Go.RowKit Go.Shelf
set_option linter.unusedVariables false
set_option linter.unusedSimpArgs false

def RightX (lo hi : List Int) : Prop := lo.length = hi.length ∧ lo.length ≤ 16 ∧ ∀ j, j < lo.length → 0 ≤ nth lo j ∧ nth lo j ≤ nth hi j ∧ nth hi j ≤ 65536
instance (lo hi : List Int) : Decidable (RightX lo hi) := inferInstanceAs (Decidable (_ ∧ _))
def rightX (lo hi : List Int) : Bool := decide (RightX lo hi)
theorem rightX_no {lo hi : List Int} (h : ¬ RightX lo hi) : rightX lo hi = false := decide_eq_false h
theorem rightX_yes {lo hi : List Int} (h : RightX lo hi) : rightX lo hi = true := decide_eq_true h

theorem BoxRight_any (p q : Option Addr) (c f : Nat) (lo hi : List Int) (w : World) (h : Ints w p lo) (h' : Ints w q hi) :
    Calls Try.prog 51 #[.agg #[.slice p lo.length c, .slice q hi.length f]] w fun e w' => e = .returned (.bool (rightX lo hi)) ∧ Below w.heap.size w w' := by
  have hn := h.small
  have hn' := h'.small
  have hba := below_alloc w (.cells #[.slice p lo.length c, .slice q hi.length f] 67)
  have h1 := h.keep hba
  have h2 := h'.keep hba
  by_cases hlen : lo.length = hi.length
  · have hlb : ((lo.length : Int) != (hi.length : Int)) = false := by simp [hlen]
    have Hlen := Lib.hid hlen
    have hle : lo.length ≤ hi.length := by omega
    clear hlen
    by_cases h16 : lo.length ≤ 16
    · have hd : decide ((16 : Int) < (lo.length : Int)) = false := by simp; omega
      go_enter Try.func51, Try.ntmps51
      go_wp2_with fail
      go_loop [21] (fun i => ∃ k : Nat, k ≤ lo.length ∧ i = .int .i64 k ∧ Hid (∀ j, j < k → 0 ≤ nth lo j ∧ nth lo j ≤ nth hi j ∧ nth hi j ≤ 65536)) (fun i => lo.length - (intOf i).toNat)
      case atStart => exact ⟨0, Nat.zero_le _, rfl, fun j hj => by omega⟩
      case round =>
        obtain ⟨k, hk, rfl, hI⟩ := hrel
        by_cases hlt : k < lo.length
        · have hlt' : k < hi.length := by omega
          obtain ⟨b1, o1, rfl, -, hc⟩ := h1.at hlt
          obtain ⟨b2, o2, rfl, -, hc'⟩ := h2.at hlt'
          have hi1 : (k : Int) < (lo.length : Int) := by omega
          have hi2 : (k : Int) < (hi.length : Int) := by omega
          obtain ⟨x, hx⟩ : ∃ x, nth lo k = x := ⟨_, rfl⟩
          obtain ⟨y, hy⟩ : ∃ y, nth hi k = y := ⟨_, rfl⟩
          have HX := Lib.hid hx
          have HY := Lib.hid hy
          rw [hx] at hc
          rw [hy] at hc'
          clear hx hy
          by_cases hg : 0 ≤ x ∧ x ≤ y ∧ y ≤ 65536
          · have d1 : decide (x < 0) = false := by simp; omega
            have d2 : decide (y < x) = false := by simp; omega
            have d3 : decide (65536 < y) = false := by simp; omega
            have HN : Hid (∀ j, j < k + 1 → 0 ≤ nth lo j ∧ nth lo j ≤ nth hi j ∧ nth hi j ≤ 65536) := fun j hj => by
              by_cases hjk : j = k
              · subst hjk
                rw [HX.out, HY.out]
                exact hg
              · exact hI.out j (by omega)
            go_wp2_with fail
            go_round
            case rel => exact ⟨k + 1, by omega, by go_num, HN⟩
            case measure => simp [intOf]; omega
          · have HN : Hid (rightX lo hi = false) := rightX_no fun hr => hg (by have := hr.2.2 k hlt; rw [HX.out, HY.out] at this; exact this)
            by_cases g1 : x < 0
            · have d1 : decide (x < 0) = true := by simp; omega
              go_wp2_with fail
              go_ret
              exact ⟨ret_bool HN.out.symm, hba⟩
            · have d1 : decide (x < 0) = false := by simp; omega
              by_cases g2 : y < x
              · have d2 : decide (y < x) = true := by simp; omega
                go_wp2_with fail
                go_ret
                exact ⟨ret_bool HN.out.symm, hba⟩
              · have d2 : decide (y < x) = false := by simp; omega
                have d3 : decide (65536 < y) = true := by simp; omega
                go_wp2_with fail
                go_ret
                exact ⟨ret_bool HN.out.symm, hba⟩
        · have hi1 : ¬ (k : Int) < (lo.length : Int) := by omega
          have HN : Hid (rightX lo hi = true) := rightX_yes ⟨Hlen.out, h16, fun j hj => hI.out j (by omega)⟩
          go_wp2_with fail
          go_ret
          exact ⟨ret_bool HN.out.symm, hba⟩
    · have hd : decide ((16 : Int) < (lo.length : Int)) = true := by simp; omega
      have HN : Hid (rightX lo hi = false) := rightX_no fun hr => h16 hr.2.1
      go_enter Try.func51, Try.ntmps51
      go_wp2_with fail
      go_ret
      exact ⟨ret_bool HN.out.symm, hba⟩
  · have hlb : ((lo.length : Int) != (hi.length : Int)) = true := by simp; omega
    have HN : Hid (rightX lo hi = false) := rightX_no fun hr => hlen hr.1
    go_enter Try.func51, Try.ntmps51
    go_wp2_with fail
    go_ret
    exact ⟨ret_bool HN.out.symm, hba⟩

theorem RefBoxRight_any (p q : Option Addr) (c f : Nat) (lo hi : List Int) (w : World) (h : Ints w p lo) (h' : Ints w q hi) :
    Calls Try.prog 52 #[.agg #[.slice p lo.length c, .slice q hi.length f]] w fun e w' => e = .returned (.bool (rightX lo hi)) ∧ Below w.heap.size w w' := by
  have hn := h.small
  have hn' := h'.small
  have hba := below_alloc w (.cells #[.slice p lo.length c, .slice q hi.length f] 65)
  have h1 := h.keep hba
  have h2 := h'.keep hba
  by_cases hlen : lo.length = hi.length
  · have hlb : ((lo.length : Int) != (hi.length : Int)) = false := by simp [hlen]
    have Hlen := Lib.hid hlen
    have hle : lo.length ≤ hi.length := by omega
    clear hlen
    by_cases h16 : lo.length ≤ 16
    · have hd : decide ((16 : Int) < (lo.length : Int)) = false := by simp; omega
      go_enter Try.func52, Try.ntmps52
      go_wp2_with fail
      go_loopw [3] (fun i wr => ∃ k m : Nat, k ≤ lo.length ∧ i = .int .i64 k ∧ wr = (w.alloc (.cells #[.slice p lo.length c, .slice q hi.length f] 65)).drewN m ∧ Hid (∀ j, j < k → 0 ≤ nth lo j ∧ nth lo j ≤ nth hi j ∧ nth hi j ≤ 65536)) (fun i _ => lo.length - (intOf i).toNat)
      case atStart => exact ⟨0, 0, Nat.zero_le _, rfl, rfl, fun j hj => by omega⟩
      case round =>
        obtain ⟨k, m, hk, rfl, rfl, hI⟩ := hrel
        have hbd := fun n => below_t hba (below_drewN _ (w.alloc (.cells #[.slice p lo.length c, .slice q hi.length f] 65)) n)
        by_cases hlt : k < lo.length
        · have hlt' : k < hi.length := by omega
          obtain ⟨b1, o1, rfl, -, hc⟩ := h1.at hlt
          obtain ⟨b2, o2, rfl, -, hc'⟩ := h2.at hlt'
          have hi1 : (k : Int) < (lo.length : Int) := by omega
          have hi2 : (k : Int) < (hi.length : Int) := by omega
          obtain ⟨x, hx⟩ : ∃ x, nth lo k = x := ⟨_, rfl⟩
          obtain ⟨y, hy⟩ : ∃ y, nth hi k = y := ⟨_, rfl⟩
          have HX := Lib.hid hx
          have HY := Lib.hid hy
          rw [hx] at hc
          rw [hy] at hc'
          clear hx hy
          by_cases hg : 0 ≤ x ∧ x ≤ y ∧ y ≤ 65536
          · have d1 : decide (x < 0) = false := by simp; omega
            have d2 : decide (y < x) = false := by simp; omega
            have d3 : decide (65536 < y) = false := by simp; omega
            have HN : Hid (∀ j, j < k + 1 → 0 ≤ nth lo j ∧ nth lo j ≤ nth hi j ∧ nth hi j ≤ 65536) := fun j hj => by
              by_cases hjk : j = k
              · subst hjk
                rw [HX.out, HY.out]
                exact hg
              · exact hI.out j (by omega)
            clear hbd
            go_wp2
            go_quiet (fail)
            go_wp2
            go_roundw
            case rel => exact ⟨k + 1, _, by omega, by go_num, rfl, HN⟩
            case measure => simp [intOf]; omega
          · have HN : Hid (rightX lo hi = false) := rightX_no fun hr => hg (by have := hr.2.2 k hlt; rw [HX.out, HY.out] at this; exact this)
            by_cases g1 : x < 0
            · have d1 : decide (x < 0) = true := by simp; omega
              go_wp2
              go_quiet (fail)
              go_wp2
              go_ret
              exact ⟨ret_bool HN.out.symm, by first | exact hbd _ | exact below_t (hbd _) (below_drewN _ _ _)⟩
            · have d1 : decide (x < 0) = false := by simp; omega
              by_cases g2 : y < x
              · have d2 : decide (y < x) = true := by simp; omega
                go_wp2
                go_quiet (fail)
                go_wp2
                go_ret
                exact ⟨ret_bool HN.out.symm, by first | exact hbd _ | exact below_t (hbd _) (below_drewN _ _ _)⟩
              · have d2 : decide (y < x) = false := by simp; omega
                have d3 : decide (65536 < y) = true := by simp; omega
                go_wp2
                go_quiet (fail)
                go_wp2
                go_ret
                exact ⟨ret_bool HN.out.symm, by first | exact hbd _ | exact below_t (hbd _) (below_drewN _ _ _)⟩
        · have hi1 : ¬ (k : Int) < (lo.length : Int) := by omega
          have HN : Hid (rightX lo hi = true) := rightX_yes ⟨Hlen.out, h16, fun j hj => hI.out j (by omega)⟩
          go_wp2_with fail
          go_ret
          exact ⟨ret_bool HN.out.symm, hbd _⟩
    · have hd : decide ((16 : Int) < (lo.length : Int)) = true := by simp; omega
      have HN : Hid (rightX lo hi = false) := rightX_no fun hr => h16 hr.2.1
      go_enter Try.func52, Try.ntmps52
      go_wp2_with fail
      go_ret
      exact ⟨ret_bool HN.out.symm, hba⟩
  · have hlb : ((lo.length : Int) != (hi.length : Int)) = true := by simp; omega
    have HN : Hid (rightX lo hi = false) := rightX_no fun hr => hlen hr.1
    go_enter Try.func52, Try.ntmps52
    go_wp2_with fail
    go_ret
    exact ⟨ret_bool HN.out.symm, hba⟩
end Go.Proofs.Ythkfjdhakbjllaa
