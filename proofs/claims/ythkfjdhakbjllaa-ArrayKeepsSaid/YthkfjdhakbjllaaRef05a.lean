/- The reference's At of layer 5. -/
import Derived.Test.YthkfjdhakbjllaaTab2
namespace Go.Proofs.Ythkfjdhakbjllaa
open Go.RowKit Go.Shelf
set_option linter.unusedVariables false

/-- what the reference returns for a right array -/
def ratS (s d ix : List Int) : Int × Bool := if Valid s ix then (nth d (offS s ix).toNat, true) else (0, false)

set_option maxHeartbeats 800000 in
theorem RefAt_any (p q r : Option Addr) (c f g : Nat) (s d ix : List Int) (ha : arrS s d = 0) (w : World) (h : Ints w p s) (h' : Ints w q d) (h'' : Ints w r ix) :
    Calls Try.prog 40 #[.agg #[.slice p s.length c, .slice q d.length f], .slice r ix.length g] w fun e w' => e = .returned (.tuple #[.int .i64 (atS s d ix).1, .bool (atS s d ix).2]) ∧ Below w.heap.size w w' := by
  have hz : shapeS s = 0 := by
    unfold arrS at ha
    by_cases hz : shapeS s = 0
    · exact hz
    · rw [if_neg hz] at ha
      exact absurd ha hz
  have hsh := hz
  by_cases hv : Valid s ix
  · obtain ⟨-, h1, h2, h3⟩ := at_bd ha hv
    have e : atS s d ix = (nth d (offS s ix).toNat, true) := if_pos ⟨ha, hv⟩
    have hro := roffS_valid hv
    rw [e]
    obtain ⟨o, ho⟩ : ∃ o, offS s ix = o := ⟨_, rfl⟩
    rw [ho] at h1 h2 h3 hro ⊢
    obtain ⟨k, rfl⟩ := Int.eq_ofNat_of_zero_le h1
    rw [Int.toNat_natCast] at h3 ⊢
    have Hro := Lib.hid hro
    have hlt : decide ((k : Int) < 0) = false := by simp
    have Hz := Lib.hid hz
    clear e ho hv h1 hro hz hsh ha
    go_enter Try.func40, Try.ntmps40
    go_wp2_with fail
    refine (RefOffset_is s ix k Hro.out (shapeS_zero.1 Hz.out) _ _ _ _ _ (h.keep (below_alloc _ _)) (h''.keep (below_alloc _ _))).mono ?_
    rintro e w' ⟨rfl, hb1⟩
    have hx2 := hb1.cell (p := ⟨w.heap.size, 1, none⟩) (by simp)
    have hz1 := hb1.size
    simp [go_sem] at hx2 hz1
    have hb := below_1 hb1
    clear hb1
    obtain ⟨b1, o1, rfl, -, hc⟩ := (h'.keep hb).at h3
    go_wp2_with fail
    go_ret2
    exact ⟨rfl, hb⟩
  · have e : atS s d ix = (0, false) := if_neg fun h => hv h.2
    rw [e]
    have Hro : Hid (roffS s ix = -1) := if_neg hv
    have Hz := Lib.hid hz
    clear e hv hz hsh ha
    go_enter Try.func40, Try.ntmps40
    go_wp2_with fail
    refine (RefOffset_is s ix (-1) Hro.out (shapeS_zero.1 Hz.out) _ _ _ _ _ (h.keep (below_alloc _ _)) (h''.keep (below_alloc _ _))).mono ?_
    rintro e w' ⟨rfl, hb1⟩
    have hb := below_1 hb1
    clear hb1
    go_wp2_with fail
    go_ret2
    exact ⟨rfl, hb⟩
end Go.Proofs.Ythkfjdhakbjllaa
