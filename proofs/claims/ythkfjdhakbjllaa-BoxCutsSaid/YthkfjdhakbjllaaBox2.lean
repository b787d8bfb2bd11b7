/- Boxes: how many cells, and which indices are in. No condition beyond what each says. -/
import Derived.Test.YthkfjdhakbjllaaBox1
namespace Go.Proofs.Ythkfjdhakbjllaa
open Go.RowKit Go.Shelf
set_option linter.unusedVariables false
set_option linter.unusedSimpArgs false

theorem wrap64_id {x : Int} (h1 : -9223372036854775808 ≤ x) (h2 : x ≤ 9223372036854775807) : wrap64 x = x := by unfold wrap64; omega
def FullX (lo hi : List Int) : Prop := ∀ j, j < lo.length → nth lo j < nth hi j
instance (lo hi : List Int) : Decidable (FullX lo hi) := inferInstanceAs (Decidable (∀ j, j < lo.length → nth lo j < nth hi j))
/-- the product of the first k lengths -/
def vol (lo hi : List Int) : Nat → Int
  | 0 => 1
  | k + 1 => vol lo hi k * (nth hi k - nth lo k)
theorem vol_pos {lo hi : List Int} (h : FullX lo hi) : ∀ k, k ≤ lo.length → 1 ≤ vol lo hi k
  | 0, _ => by simp [vol]
  | k + 1, hk => by
    have h1 := vol_pos h k (by omega)
    have h2 := h k (by omega)
    have h3 : 1 * 1 ≤ vol lo hi k * (nth hi k - nth lo k) := Int.mul_le_mul h1 (by omega) (by omega) (by omega)
    simpa [vol] using h3
theorem vol_le {lo hi : List Int} (h : FullX lo hi) {j k : Nat} (hjk : j ≤ k) (hk : k ≤ lo.length) : vol lo hi j ≤ vol lo hi k := by
  induction k with
  | zero =>
    have : j = 0 := by omega
    subst this
    exact Int.le_refl _
  | succ k ih =>
    by_cases hj : j = k + 1
    · subst hj
      exact Int.le_refl _
    · have h1 := ih (by omega) (by omega)
      have h2 := vol_pos h k (by omega)
      have h3 := h k (by omega)
      have h4 : vol lo hi k * 1 ≤ vol lo hi k * (nth hi k - nth lo k) := Int.mul_le_mul_of_nonneg_left (by omega) (by omega)
      simp only [vol]
      omega
def countX (lo hi : List Int) : Int := if FullX lo hi then vol lo hi lo.length else 0

theorem Count_any (p q : Option Addr) (c f : Nat) (lo hi : List Int) (n : Nat) (hn : hi.length = n) (hlen : lo.length ≤ n) (hv : FullX lo hi → vol lo hi lo.length ≤ 9000000000000000000) (w : World) (h : Ints w p lo) (h' : Ints w q hi) :
    Calls Try.prog 93 #[.slice p lo.length c, .slice q n f] w fun e w' => e = .returned (.int .i64 (countX lo hi)) ∧ ∃ m, w' = w.drewN m := by
  subst hn
  have hn := h.small
  have hn' := h'.small
  have HV := Lib.hid hv
  clear hv
  go_enter Try.func93, Try.ntmps93
  go_wp2_with fail
  go_loopw [10] (fun i wr => ∃ k m : Nat, k ≤ lo.length ∧ i = .int .i64 k ∧ wr = w.drewN m ∧ Hid (∀ j, j < k → nth lo j < nth hi j)) (fun i _ => lo.length - (intOf i).toNat)
  case atStart => exact ⟨0, 0, Nat.zero_le _, rfl, rfl, fun j hj => by omega⟩
  case round =>
    obtain ⟨k, m, hk, rfl, rfl, hI⟩ := hrel
    by_cases hlt : k < lo.length
    · have hlt' : k < hi.length := by omega
      obtain ⟨b1, o1, rfl, -, hc⟩ := h.at hlt
      obtain ⟨b2, o2, rfl, -, hc'⟩ := h'.at hlt'
      have hi1 : (k : Int) < (lo.length : Int) := by omega
      have hi2 : (k : Int) < (hi.length : Int) := by omega
      by_cases hx : nth lo k < nth hi k
      · have hxd : decide (nth hi k ≤ nth lo k) = false := by simp; omega
        have HN : Hid (∀ j, j < k + 1 → nth lo j < nth hi j) := fun j hj => by
          by_cases hjk : j = k
          · subst hjk
            exact hx
          · exact hI.out j (by omega)
        clear hx
        go_wp2
        go_quiet (fail)
        go_wp2
        go_roundw
        case rel => exact ⟨k + 1, _, by omega, by go_num, rfl, HN⟩
        case measure => simp [intOf]; omega
      · have hxd : decide (nth hi k ≤ nth lo k) = true := by simp; omega
        have HN : Hid (countX lo hi = 0) := if_neg fun hf => hx (hf k hlt)
        clear hx
        go_wp2
        go_quiet (fail)
        go_wp2
        go_ret
        exact ⟨ret_int HN.out.symm, quiet_add _ _ _⟩
    · have hi1 : ¬ (k : Int) < (lo.length : Int) := by omega
      have hf : FullX lo hi := fun j hj => hI.out j (by omega)
      have HF := Lib.hid hf
      have HC : Hid (countX lo hi = vol lo hi lo.length) := if_pos hf
      have hvv := HV.out hf
      clear hI hf
      go_wp2_with fail
      go_loopw [5, 25] (fun n i wr => ∃ k m : Nat, k ≤ lo.length ∧ i = .int .i64 k ∧ wr = w.drewN m ∧ n = .int .i64 (vol lo hi k)) (fun _ i _ => lo.length - (intOf i).toNat)
      case atStart => exact ⟨0, m, Nat.zero_le _, rfl, rfl, rfl⟩
      case round =>
        obtain ⟨k, m, hk, rfl, rfl, rfl⟩ := hrel
        by_cases hlt : k < lo.length
        · have hlt' : k < hi.length := by omega
          obtain ⟨b1, o1, rfl, -, hc⟩ := h.at hlt
          obtain ⟨b2, o2, rfl, -, hc'⟩ := h'.at hlt'
          have hi1 : (k : Int) < (lo.length : Int) := by omega
          have hi2 : (k : Int) < (hi.length : Int) := by omega
          have hx := HF.out k hlt
          have v1 := vol_pos HF.out k (by omega)
          have v2 := vol_pos HF.out (k + 1) (by omega)
          have v3 := vol_le HF.out (j := k + 1) (k := lo.length) (by omega) (by omega)
          have v4 : nth hi k - nth lo k ≤ vol lo hi (k + 1) := by
            have : 1 * (nth hi k - nth lo k) ≤ vol lo hi k * (nth hi k - nth lo k) := Int.mul_le_mul_of_nonneg_right v1 (by omega)
            simp only [vol]
            omega
          have HS : Hid (wrap64 (vol lo hi k * wrap64 (nth hi k - nth lo k)) = vol lo hi (k + 1)) := by
            unfold Hid
            rw [wrap64_id (x := nth hi k - nth lo k) (by omega) (by omega)]
            rw [show vol lo hi k * (nth hi k - nth lo k) = vol lo hi (k + 1) from rfl, wrap64_id (by omega) (by omega)]
          clear v1 v2 v3 v4 hx
          go_wp2
          go_quiet (fail)
          go_wp2
          go_roundw
          case rel => exact ⟨k + 1, _, by omega, by go_num, rfl, by rw [HS.out]⟩
          case measure => simp [intOf]; omega
        · have hi1 : ¬ (k : Int) < (lo.length : Int) := by omega
          have hke : k = lo.length := by omega
          have HN : Hid (countX lo hi = vol lo hi k) := by rw [hke]; exact HC
          clear hke
          go_wp2_with fail
          go_ret
          exact ⟨ret_int HN.out.symm, _, rfl⟩

def InX (lo hi ix : List Int) : Prop := ix.length = lo.length ∧ ∀ j, j < ix.length → nth lo j ≤ nth ix j ∧ nth ix j < nth hi j
instance (lo hi ix : List Int) : Decidable (InX lo hi ix) := inferInstanceAs (Decidable (_ ∧ _))
def inX (lo hi ix : List Int) : Bool := decide (InX lo hi ix)

theorem BoxHas_any (p q r : Option Addr) (c f d : Nat) (lo hi ix : List Int) (hle : lo.length ≤ hi.length) (w : World) (h : Ints w p lo) (h' : Ints w q hi) (hx : Ints w r ix) :
    Calls Try.prog 59 #[.agg #[.slice p lo.length c, .slice q hi.length f], .slice r ix.length d] w fun e w' => e = .returned (.bool (inX lo hi ix)) ∧ Below w.heap.size w w' := by
  have hn := h.small
  have hn' := h'.small
  have hn2 := hx.small
  have hba := below_alloc w (.cells #[.slice p lo.length c, .slice q hi.length f] 67)
  have h1 := h.keep hba
  have h2 := h'.keep hba
  have h3 := hx.keep hba
  by_cases hlen : ix.length = lo.length
  · have hlb : ((ix.length : Int) != (lo.length : Int)) = false := by simp [hlen]
    have Hlen := Lib.hid hlen
    have hxl : ix.length ≤ lo.length := by omega
    clear hlen
    go_enter Try.func59, Try.ntmps59
    go_wp2_with fail
    go_loop [15] (fun i => ∃ k : Nat, k ≤ ix.length ∧ i = .int .i64 k ∧ Hid (∀ j, j < k → nth lo j ≤ nth ix j ∧ nth ix j < nth hi j)) (fun i => ix.length - (intOf i).toNat)
    case atStart => exact ⟨0, Nat.zero_le _, rfl, fun j hj => by omega⟩
    case round =>
      obtain ⟨k, hk, rfl, hI⟩ := hrel
      by_cases hlt : k < ix.length
      · have hl1 : k < lo.length := by omega
        have hl2 : k < hi.length := by omega
        obtain ⟨b1, o1, rfl, -, hc⟩ := h1.at hl1
        obtain ⟨b2, o2, rfl, -, hc'⟩ := h2.at hl2
        obtain ⟨b3, o3, rfl, -, hc2⟩ := h3.at hlt
        have hi1 : (k : Int) < (lo.length : Int) := by omega
        have hi2 : (k : Int) < (hi.length : Int) := by omega
        have hi3 : (k : Int) < (ix.length : Int) := by omega
        by_cases g1 : nth lo k ≤ nth ix k
        · have d1 : decide (nth ix k < nth lo k) = false := by simp; omega
          by_cases g2 : nth ix k < nth hi k
          · have d2 : decide (nth hi k ≤ nth ix k) = false := by simp; omega
            have HN : Hid (∀ j, j < k + 1 → nth lo j ≤ nth ix j ∧ nth ix j < nth hi j) := fun j hj => by
              by_cases hjk : j = k
              · subst hjk
                exact ⟨g1, g2⟩
              · exact hI.out j (by omega)
            clear g1 g2
            go_wp2_with fail
            go_round
            case rel => exact ⟨k + 1, by omega, by go_num, HN⟩
            case measure => simp [intOf]; omega
          · have d2 : decide (nth hi k ≤ nth ix k) = true := by simp; omega
            have HN : Hid (inX lo hi ix = false) := decide_eq_false fun hr => g2 (hr.2 k hlt).2
            clear g1 g2
            go_wp2_with fail
            go_ret
            exact ⟨ret_bool HN.out.symm, hba⟩
        · have d1 : decide (nth ix k < nth lo k) = true := by simp; omega
          have HN : Hid (inX lo hi ix = false) := decide_eq_false fun hr => g1 (hr.2 k hlt).1
          clear g1
          go_wp2_with fail
          go_ret
          exact ⟨ret_bool HN.out.symm, hba⟩
      · have hi1 : ¬ (k : Int) < (ix.length : Int) := by omega
        have HN : Hid (inX lo hi ix = true) := decide_eq_true ⟨Hlen.out, fun j hj => hI.out j (by omega)⟩
        go_wp2_with fail
        go_ret
        exact ⟨ret_bool HN.out.symm, hba⟩
  · have hlb : ((ix.length : Int) != (lo.length : Int)) = true := by simp; omega
    have HN : Hid (inX lo hi ix = false) := decide_eq_false fun hr => hlen hr.1
    go_enter Try.func59, Try.ntmps59
    go_wp2_with fail
    go_ret
    exact ⟨ret_bool HN.out.symm, hba⟩

theorem RefHas_any (p q r : Option Addr) (c f d : Nat) (lo hi ix : List Int) (hle : lo.length ≤ hi.length) (w : World) (h : Ints w p lo) (h' : Ints w q hi) (hx : Ints w r ix) :
    Calls Try.prog 60 #[.agg #[.slice p lo.length c, .slice q hi.length f], .slice r ix.length d] w fun e w' => e = .returned (.bool (inX lo hi ix)) ∧ Below w.heap.size w w' := by
  have hn := h.small
  have hn' := h'.small
  have hn2 := hx.small
  have hba := below_alloc w (.cells #[.slice p lo.length c, .slice q hi.length f] 65)
  have h1 := h.keep hba
  have h2 := h'.keep hba
  have h3 := hx.keep hba
  by_cases hlen : ix.length = lo.length
  · have hlb : ((ix.length : Int) != (lo.length : Int)) = false := by simp [hlen]
    have Hlen := Lib.hid hlen
    have hxl : ix.length ≤ lo.length := by omega
    clear hlen
    go_enter Try.func60, Try.ntmps60
    go_wp2_with fail
    go_loopw [5] (fun i wr => ∃ k m : Nat, k ≤ ix.length ∧ i = .int .i64 k ∧ wr = (w.alloc (.cells #[.slice p lo.length c, .slice q hi.length f] 65)).drewN m ∧ Hid (∀ j, j < k → nth lo j ≤ nth ix j ∧ nth ix j < nth hi j)) (fun i _ => ix.length - (intOf i).toNat)
    case atStart => exact ⟨0, 0, Nat.zero_le _, rfl, rfl, fun j hj => by omega⟩
    case round =>
      obtain ⟨k, m, hk, rfl, rfl, hI⟩ := hrel
      have hbd := fun n => below_t hba (below_drewN _ (w.alloc (.cells #[.slice p lo.length c, .slice q hi.length f] 65)) n)
      by_cases hlt : k < ix.length
      · have hl1 : k < lo.length := by omega
        have hl2 : k < hi.length := by omega
        obtain ⟨b1, o1, rfl, -, hc⟩ := h1.at hl1
        obtain ⟨b2, o2, rfl, -, hc'⟩ := h2.at hl2
        obtain ⟨b3, o3, rfl, -, hc2⟩ := h3.at hlt
        have hi1 : (k : Int) < (lo.length : Int) := by omega
        have hi2 : (k : Int) < (hi.length : Int) := by omega
        have hi3 : (k : Int) < (ix.length : Int) := by omega
        by_cases g1 : nth lo k ≤ nth ix k
        · have d1 : decide (nth ix k < nth lo k) = false := by simp; omega
          by_cases g2 : nth ix k < nth hi k
          · have d2 : decide (nth hi k ≤ nth ix k) = false := by simp; omega
            have HN : Hid (∀ j, j < k + 1 → nth lo j ≤ nth ix j ∧ nth ix j < nth hi j) := fun j hj => by
              by_cases hjk : j = k
              · subst hjk
                exact ⟨g1, g2⟩
              · exact hI.out j (by omega)
            clear g1 g2 hbd
            go_wp2
            go_quiet (fail)
            go_wp2
            go_roundw
            case rel => exact ⟨k + 1, _, by omega, by go_num, rfl, HN⟩
            case measure => simp [intOf]; omega
          · have d2 : decide (nth hi k ≤ nth ix k) = true := by simp; omega
            have HN : Hid (inX lo hi ix = false) := decide_eq_false fun hr => g2 (hr.2 k hlt).2
            clear g1 g2
            go_wp2
            go_quiet (fail)
            go_wp2
            go_ret
            exact ⟨ret_bool HN.out.symm, by first | exact hbd _ | exact below_t (hbd _) (below_drewN _ _ _)⟩
        · have d1 : decide (nth ix k < nth lo k) = true := by simp; omega
          have HN : Hid (inX lo hi ix = false) := decide_eq_false fun hr => g1 (hr.2 k hlt).1
          clear g1
          go_wp2
          go_quiet (fail)
          go_wp2
          go_ret
          exact ⟨ret_bool HN.out.symm, by first | exact hbd _ | exact below_t (hbd _) (below_drewN _ _ _)⟩
      · have hi1 : ¬ (k : Int) < (ix.length : Int) := by omega
        have HN : Hid (inX lo hi ix = true) := decide_eq_true ⟨Hlen.out, fun j hj => hI.out j (by omega)⟩
        go_wp2_with fail
        go_ret
        exact ⟨ret_bool HN.out.symm, hbd _⟩
  · have hlb : ((ix.length : Int) != (lo.length : Int)) = true := by simp; omega
    have HN : Hid (inX lo hi ix = false) := decide_eq_false fun hr => hlen hr.1
    go_enter Try.func60, Try.ntmps60
    go_wp2_with fail
    go_ret
    exact ⟨ret_bool HN.out.symm, hba⟩
end Go.Proofs.Ythkfjdhakbjllaa
