/- odometer.step: an index is changed to the following one. No condition beyond what each says. -/
import Derived.Test.YthkfjiioekhkhaaOdoPlain
namespace Go.Proofs.Ythkfjiioekhkhaa
open Go.RowKit Go.Shelf
set_option linter.unusedVariables false
set_option linter.unusedSimpArgs false

/-- the numbers when those from k on have been set back -/
def backX (lo a : List Int) (k : Nat) : List Int := a.take k ++ lo.drop k
theorem backX_len {lo a : List Int} (h : a.length = lo.length) {k : Nat} (hk : k ≤ lo.length) : (backX lo a k).length = lo.length := by
  unfold backX
  rw [List.length_append, List.length_take, List.length_drop]
  omega
theorem backX_nth {lo a : List Int} (h : a.length = lo.length) {k i : Nat} (hk : k ≤ lo.length) (hi : i < k) : nth (backX lo a k) i = nth a i := by
  unfold backX nth
  rw [List.getD_eq_getElem?_getD, List.getElem?_append_left (by rw [List.length_take]; omega), List.getElem?_take_of_lt hi, List.getD_eq_getElem?_getD]
theorem backX_set {lo a : List Int} (h : a.length = lo.length) {i : Nat} (hi : i < lo.length) (x : Int) : (backX lo a (i + 1)).set i x = a.take i ++ x :: lo.drop (i + 1) := by
  unfold backX
  rw [take_nth (xs := a) (k := i) (by omega), List.append_assoc, List.set_append_right _ _ (by rw [List.length_take]; omega), List.length_take, show i - min i a.length = 0 by omega]
  rfl
theorem backX_back {lo a : List Int} (h : a.length = lo.length) {i : Nat} (hi : i < lo.length) (x : Int) : (a.take i ++ x :: lo.drop (i + 1)).set i (nth lo i) = backX lo a i := by
  unfold backX
  rw [List.set_append_right _ _ (by rw [List.length_take]; omega), List.length_take, show i - min i a.length = 0 by omega, List.set_cons_zero, ← drop_nth hi]
theorem grown_set {W z : World} {g : Nat} (h : W.grownBy z (some g)) (i : Nat) (v : Value) : W.grownBy (z.setCell ⟨g, i, none⟩ v) (some g) :=
  ⟨h.os, h.tape, h.output, by
    show W.heap.size ≤ (z.heap.modify _ _).size
    rw [Array.size_modify]
    exact h.size, fun k hk hne => (Below.heap_setCell z ⟨g, i, none⟩ v k (fun e => hne (by rw [e]))).trans (h.block k hk hne)⟩
theorem grown_drew {W z : World} {r : Option Nat} (h : W.grownBy z r) (n : Nat) : W.grownBy (z.drewN n) r := ⟨h.os, h.tape, h.output, h.size, h.block⟩

set_option maxRecDepth 100000 in
set_option maxHeartbeats 4000000 in
theorem Step_any (p q : Option Addr) (c f d g : Nat) (lo hi a : List Int) (J : Nat) (hl : lo.length = hi.length) (ha : a.length = lo.length) (hn : lo.length ≤ 1000000) (hJ : StopAt lo hi a J)
    (hlt : ∀ i, i < lo.length → I64 (nth a i) ∧ nth a i < nth hi i) (w : World)
    (hlo : ∀ z, w.grownBy z (some g) → Ints z p lo) (hhi : ∀ z, w.grownBy z (some g) → Ints z q hi) (ho : Own w g 3 (a.map (.int .i64))) :
    Calls Try.prog 41 #[.slice p lo.length c, .slice q lo.length f, .slice (some ⟨g, 0, none⟩) lo.length d] w fun e w' =>
      e = .returned (.bool (decide (0 < J))) ∧ w.grownBy w' (some g) ∧ Own w' g 3 ((stepX lo a J).map (.int .i64)) := by
  have HJ := Lib.hid hJ
  have HL := Lib.hid hl
  have HA := Lib.hid ha
  have HT := Lib.hid hlt
  have h0 := Lib.hid (show Own w g 3 ((backX lo a lo.length).map (.int .i64)) by unfold backX; rw [List.drop_length, List.append_nil, ← ha, List.take_length]; exact ho)
  obtain ⟨R, hR⟩ : ∃ R, decide (0 < J) = R := ⟨_, rfl⟩
  obtain ⟨X, hX⟩ : ∃ X, stepX lo a J = X := ⟨_, rfl⟩
  rw [hR, hX]
  have HR := Lib.hid hR
  have HX := Lib.hid hX
  clear hJ hl ha hlt ho hR hX
  go_enter Try.func41, Try.ntmps41
  go_wp2_with fail
  go_loopw [7] (fun i wr => ∃ k : Nat, J ≤ k ∧ k ≤ lo.length ∧ i = .int .i64 ((k : Int) - 1) ∧ Hid (w.grownBy wr (some g) ∧ Own wr g 3 ((backX lo a k).map (.int .i64)))) (fun i _ => (intOf i + 1).toNat)
  case atStart => exact ⟨lo.length, HJ.out.le, Nat.le_refl _, rfl, ⟨rfl, rfl, rfl, Nat.le_refl _, fun _ _ _ => rfl⟩, h0.out⟩
  case round =>
    obtain ⟨k, hJk, hk, rfl, HS⟩ := hrel
    clear h0
    by_cases hk0 : k = 0
    · subst hk0
      have HF := HS.out
      have hJ0 : J = 0 := by omega
      have hi1 : ¬ (0 : Int) ≤ ((0 : Nat) : Int) - 1 := by omega
      have HE : Hid (Own wr g 3 (X.map (.int .i64)) ∧ R = false) := by
        refine ⟨?_, by rw [← HR.out, hJ0]; rfl⟩
        have := HS.out.2
        rw [← HX.out, hJ0]
        unfold backX at this
        simpa [stepX] using this
      clear hJ0 hJk
      clear HS
      go_wp2_with fail
      go_ret
      exact ⟨ret_bool HE.out.2.symm, HF.1, HE.out.1⟩
    · obtain ⟨i, rfl⟩ : ∃ i, k = i + 1 := ⟨k - 1, by omega⟩
      have e1 : ((i + 1 : Nat) : Int) - 1 = (i : Int) := by omega
      rw [e1]
      have hil : i < lo.length := by omega
      have hi1 : (0 : Int) ≤ (i : Int) := by omega
      have hi2 : (i : Int) < (lo.length : Int) := by omega
      have hbl := backX_len HA.out hk
      obtain ⟨x, hx⟩ : ∃ x, nth a i = x := ⟨_, rfl⟩
      obtain ⟨y, hy⟩ : ∃ y, nth hi i = y := ⟨_, rfl⟩
      obtain ⟨z, hz⟩ : ∃ z, nth lo i = z := ⟨_, rfl⟩
      have hcx : wr.cell? ⟨g, i, none⟩ = some (.int .i64 x) := HS.out.2.cell (by rw [List.getElem?_map, nth_get? (by rw [hbl]; exact hil), backX_nth HA.out hk (by omega), hx]; rfl)
      have hfx := HS.out.2.frozen i
      have hxy := (HT.out i hil).2
      have hx64 := (HT.out i hil).1
      rw [hx] at hxy hx64
      rw [hy] at hxy
      have hy64 : I64 y := hy ▸ (hhi w ⟨rfl, rfl, rfl, Nat.le_refl _, fun _ _ _ => rfl⟩).nth (by have := HL.out; omega)
      have hw : wrap64 (x + 1) = x + 1 := by unfold I64 at hx64 hy64; unfold wrap64; omega
      have H1 : Hid (w.grownBy (wr.setCell ⟨g, i, none⟩ (.int .i64 (x + 1))) (some g) ∧ Own (wr.setCell ⟨g, i, none⟩ (.int .i64 (x + 1))) g 3 ((a.take i ++ (x + 1) :: lo.drop (i + 1)).map (.int .i64))) := by
        refine ⟨grown_set HS.out.1 i _, ?_⟩
        have := HS.out.2.set (i := i) (by rw [List.length_map, hbl]; exact hil) (.int .i64 (x + 1))
        rw [← List.map_set, backX_set HA.out hil] at this
        exact this
      have hlen1 : (a.take i ++ (x + 1) :: lo.drop (i + 1)).length = lo.length := by rw [← backX_set HA.out hil, List.length_set, hbl]
      have hcx2 : (wr.setCell ⟨g, i, none⟩ (.int .i64 (x + 1))).cell? ⟨g, i, none⟩ = some (.int .i64 (x + 1)) := H1.out.2.cell (by
        rw [List.getElem?_map, List.getElem?_append_right (by rw [List.length_take]; have := HA.out; omega), List.length_take, show i - min i a.length = 0 by have := HA.out; omega]
        rfl)
      have hfx2 := H1.out.2.frozen i
      obtain ⟨b2, o2, hq, hbq, hc2⟩ := (hhi _ H1.out.1).at (show i < hi.length by have := HL.out; omega)
      rw [hy] at hc2
      subst hq
      by_cases hst : i + 1 = J
      · have hlt2 : x + 1 < y := by
          have := HJ.out.free (by omega)
          rw [← hst, Nat.add_sub_cancel, hx, hy] at this
          exact this
        have HE : Hid (R = true ∧ X = (a.take i ++ (x + 1) :: lo.drop (i + 1))) := by
          refine ⟨by rw [← HR.out]; exact decide_eq_true (by omega), ?_⟩
          rw [← HX.out]
          unfold stepX
          rw [if_neg (by omega), ← hst, Nat.add_sub_cancel, hx]
        clear hst hJk e1 hbl hlen1 hx hy hz HS
        go_wp2_with fail
        go_quiet (fail)
        go_wp2_with fail
        go_ret
        exact ⟨ret_bool HE.out.1.symm, grown_drew H1.out.1 _, by rw [HE.out.2]; exact H1.out.2⟩
      · have hge : ¬ x + 1 < y := by
          have := HJ.out.full i (by omega) hil
          rw [hx, hy] at this
          omega
        obtain ⟨b3, o3, hp, hbp, hc3⟩ := (hlo _ H1.out.1).at hil
        rw [hz] at hc3
        subst hp
        have H2 : Hid (w.grownBy ((wr.setCell ⟨g, i, none⟩ (.int .i64 (x + 1))).setCell ⟨g, i, none⟩ (.int .i64 z)) (some g) ∧ Own ((wr.setCell ⟨g, i, none⟩ (.int .i64 (x + 1))).setCell ⟨g, i, none⟩ (.int .i64 z)) g 3 ((backX lo a i).map (.int .i64))) := by
          refine ⟨grown_set H1.out.1 i _, ?_⟩
          have := H1.out.2.set (i := i) (by rw [List.length_map, hlen1]; exact hil) (.int .i64 z)
          rw [← List.map_set, ← hz, backX_back HA.out hil] at this
          rw [hz] at this
          exact this
        have hJi : J ≤ i := by omega
        clear hst hJk e1 hbl hlen1 hx hy hz HS
        go_wp2_with fail
        go_quiet (fail)
        go_wp2_with fail
        go_roundw
        case rel => exact ⟨i, hJi, by omega, by go_num, grown_set (grown_drew H1.out.1 _) i _, H2.out.2⟩
        case measure => simp [intOf]
end Go.Proofs.Ythkfjiioekhkhaa
