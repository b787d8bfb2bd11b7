/- Boxes: empty ones, small ones, the same ones, in the reference. No condition beyond what each says. -/
import Derived.Test.YthkfjdhakbjllaaBox2
namespace Go.Proofs.Ythkfjdhakbjllaa
open Go.RowKit Go.Shelf
set_option linter.unusedVariables false
set_option linter.unusedSimpArgs false

theorem RefEmpty_any (p q : Option Addr) (c f : Nat) (lo hi : List Int) (r : Bool) (hr : decide (¬ FullX lo hi) = r) (hle : lo.length ≤ hi.length) (w : World) (h : Ints w p lo) (h' : Ints w q hi) :
    Calls Try.prog 94 #[.agg #[.slice p lo.length c, .slice q hi.length f]] w fun e w' => e = .returned (.bool r) ∧ Below w.heap.size w w' := by
  have hn := h.small
  have hn' := h'.small
  have HR := Lib.hid hr
  clear hr
  have hba := below_alloc w (.cells #[.slice p lo.length c, .slice q hi.length f] 65)
  have h1 := h.keep hba
  have h2 := h'.keep hba
  go_enter Try.func94, Try.ntmps94
  go_wp2_with fail
  go_loopw [3] (fun i wr => ∃ k m : Nat, k ≤ lo.length ∧ i = .int .i64 k ∧ wr = (w.alloc (.cells #[.slice p lo.length c, .slice q hi.length f] 65)).drewN m ∧ Hid (∀ j, j < k → nth lo j < nth hi j)) (fun i _ => lo.length - (intOf i).toNat)
  case atStart => exact ⟨0, 0, Nat.zero_le _, rfl, rfl, fun j hj => by omega⟩
  case round =>
    obtain ⟨k, m, hk, rfl, rfl, hI⟩ := hrel
    have hbd := fun n => below_t hba (below_drewN _ (w.alloc (.cells #[.slice p lo.length c, .slice q hi.length f] 65)) n)
    by_cases hlt : k < lo.length
    · have hlt' : k < hi.length := by omega
      obtain ⟨b1, o1, rfl, -, hc⟩ := h1.at hlt
      obtain ⟨b2, o2, rfl, -, hc'⟩ := h2.at hlt'
      have hi1 : (k : Int) < (lo.length : Int) := by omega
      have hi2 : (k : Int) < (hi.length : Int) := by omega
      by_cases hx : nth lo k < nth hi k
      · have hxd : decide (nth hi k ≤ nth lo k) = false := by simp; omega
        have HN : Hid (∀ j, j < k + 1 → nth lo j < nth hi j) := fun j hj => by
          by_cases hjk : j = k
          · subst hjk
            exact hx
          · exact hI.out j (by omega)
        clear hx hbd
        go_wp2
        go_quiet (fail)
        go_wp2
        go_roundw
        case rel => exact ⟨k + 1, _, by omega, by go_num, rfl, HN⟩
        case measure => simp [intOf]; omega
      · have hxd : decide (nth hi k ≤ nth lo k) = true := by simp; omega
        have HN : Hid (r = true) := HR.out.symm.trans (decide_eq_true fun hf => hx (hf k hlt))
        clear hx
        go_wp2
        go_quiet (fail)
        go_wp2
        go_ret
        exact ⟨ret_bool HN.out.symm, by first | exact hbd _ | exact below_t (hbd _) (below_drewN _ _ _)⟩
    · have hi1 : ¬ (k : Int) < (lo.length : Int) := by omega
      have HN : Hid (r = false) := HR.out.symm.trans (decide_eq_false fun hf => hf fun j hj => hI.out j (by omega))
      go_wp2_with fail
      go_ret
      exact ⟨ret_bool HN.out.symm, hbd _⟩

def sameX (a b c d : List Int) : Bool := eqS a c && eqS b d
theorem BoxSame_any (p q p' q' : Option Addr) (c f c' f' : Nat) (lo hi lo' hi' : List Int) (r : Bool) (hr : sameX lo hi lo' hi' = r) (w : World) (h1 : Ints w p lo) (h2 : Ints w q hi) (h3 : Ints w p' lo') (h4 : Ints w q' hi') :
    Calls Try.prog 56 #[.agg #[.slice p lo.length c, .slice q hi.length f], .agg #[.slice p' lo'.length c', .slice q' hi'.length f']] w fun e w' => e = .returned (.bool r) ∧ Below w.heap.size w w' := by
  have HR := Lib.hid hr
  clear hr
  have b1 := below_alloc w (.cells #[.slice p lo.length c, .slice q hi.length f] 65)
  have b2 := below_alloc (w.alloc (.cells #[.slice p lo.length c, .slice q hi.length f] 65)) (.cells #[.slice p' lo'.length c', .slice q' hi'.length f'] 65)
  have h1 := (h1.keep b1).keep b2
  have h2 := (h2.keep b1).keep b2
  have h3 := (h3.keep b1).keep b2
  have h4 := (h4.keep b1).keep b2
  cases hs : eqS lo lo' with
  | false =>
    have HN : Hid (r = false) := by rw [← HR.out]; simp [Hid, sameX, hs]
    go_enter Try.func56, Try.ntmps56
    go_wp2_with fail
    refine (RefEqual_is lo lo' false hs _ _ _ _ _ h1 h3).mono ?_
    rintro e w' ⟨rfl, hb1⟩
    go_wp2_with fail
    go_ret
    exact ⟨ret_bool HN.out.symm, below_2 hb1⟩
  | true =>
    cases ht : eqS hi hi' with
    | false =>
      have HN : Hid (r = false) := by rw [← HR.out]; simp [Hid, sameX, ht]
      go_enter Try.func56, Try.ntmps56
      go_wp2_with fail
      refine (RefEqual_is lo lo' true hs _ _ _ _ _ h1 h3).mono ?_
      rintro e1 w1 ⟨rfl, hb1⟩
      have hb := below_2 hb1
      have hx1 : w1.cell? ⟨w.heap.size, 1, none⟩ = some (.slice q hi.length f) := (hb1.cell (p := ⟨w.heap.size, 1, none⟩) (by simp; omega)).trans (by simp [go_sem])
      have hx2 : w1.cell? ⟨w.heap.size + 1, 1, none⟩ = some (.slice q' hi'.length f') := (hb1.cell (p := ⟨w.heap.size + 1, 1, none⟩) (by simp)).trans (by simp [go_sem])
      have h2 := h2.keep hb1
      have h4 := h4.keep hb1
      clear hb1 h1 h3
      go_wp2_with fail
      refine (RefEqual_is hi hi' false ht _ _ _ _ _ h2 h4).mono ?_
      rintro e2 w2 ⟨rfl, hb2⟩
      go_wp2_with fail
      go_ret
      exact ⟨ret_bool HN.out.symm, below_t hb hb2⟩
    | true =>
      have HN : Hid (r = true) := by rw [← HR.out]; simp [Hid, sameX, hs, ht]
      go_enter Try.func56, Try.ntmps56
      go_wp2_with fail
      refine (RefEqual_is lo lo' true hs _ _ _ _ _ h1 h3).mono ?_
      rintro e1 w1 ⟨rfl, hb1⟩
      have hb := below_2 hb1
      have hx1 : w1.cell? ⟨w.heap.size, 1, none⟩ = some (.slice q hi.length f) := (hb1.cell (p := ⟨w.heap.size, 1, none⟩) (by simp; omega)).trans (by simp [go_sem])
      have hx2 : w1.cell? ⟨w.heap.size + 1, 1, none⟩ = some (.slice q' hi'.length f') := (hb1.cell (p := ⟨w.heap.size + 1, 1, none⟩) (by simp)).trans (by simp [go_sem])
      have h2 := h2.keep hb1
      have h4 := h4.keep hb1
      clear hb1 h1 h3
      go_wp2_with fail
      refine (RefEqual_is hi hi' true ht _ _ _ _ _ h2 h4).mono ?_
      rintro e2 w2 ⟨rfl, hb2⟩
      go_wp2_with fail
      go_ret
      exact ⟨ret_bool HN.out.symm, below_t hb hb2⟩
end Go.Proofs.Ythkfjdhakbjllaa
