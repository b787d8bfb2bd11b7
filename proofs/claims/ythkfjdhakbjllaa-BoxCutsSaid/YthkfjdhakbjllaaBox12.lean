/- The reference's lengths of a range. No condition beyond what each says. -/
import Derived.Test.YthkfjdhakbjllaaBox11
namespace Go.Proofs.Ythkfjdhakbjllaa
open Go.RowKit Go.Shelf
set_option linter.unusedVariables false
set_option linter.unusedSimpArgs false

def dmI (x y : Int) : Int := if y - x < 0 then 0 else y - x
/-- the lengths of a range -/
def dimsX (lo hi : List Int) : List Int := mixX dmI lo hi

set_option maxRecDepth 100000 in
set_option maxHeartbeats 4000000 in
theorem RefDims4_any (p q : Option Addr) (c f : Nat) (lo hi : List Int) (hle : lo.length ≤ hi.length) (hl : lo.length ≤ 1000000) (hd : ∀ j, j < lo.length → NearX lo hi j) (w : World) (h : Ints w p lo) (h' : Ints w q hi) :
    Calls Try.prog 118 #[.slice p lo.length c, .slice q hi.length f] w (RowRet (dimsX lo hi) w) := by
  have HD := Lib.hid hd
  clear hd
  go_enter Try.func118, Try.ntmps118
  go_wp2_with fail
  have h0 : w.ownsRow w.heap.size 3 1 (.slice none 0 0) 0 (((dimsX lo hi).take 0).map (.int .i64)) := World.ownsRow_nil _ _ _ _
  go_loopw [5, 6] (fun v i wr => ∃ (k : Nat) (v' : Value), k ≤ lo.length ∧ i = .int .i64 k ∧ v' = v ∧ wr.ownsRow w.heap.size 3 1 v' k (((dimsX lo hi).take k).map (.int .i64)) ∧ Below w.heap.size w wr) (fun _ i _ => lo.length - (intOf i).toNat)
  case atStart => exact ⟨0, _, Nat.zero_le _, rfl, rfl, h0, Below.refl _ _⟩
  case round =>
    obtain ⟨k, v, hk, rfl, rfl, hown, hbr⟩ := hrel
    clear h0
    by_cases hlt : k < lo.length
    · have hlt' : k < hi.length := by omega
      obtain ⟨gl, ol, rfl, hgl, ca⟩ := h.at hlt
      obtain ⟨gh, oh, rfl, hgh, cb⟩ := h'.at hlt'
      have hi1 : (k : Int) < (lo.length : Int) := by omega
      have hi2 : (k : Int) < (hi.length : Int) := by omega
      have hml : k < (dimsX lo hi).length := by unfold dimsX; rw [mix_len hle]; exact hlt
      have Htk := Lib.hid (take_nth hml)
      obtain ⟨x, hx⟩ : ∃ x, nth lo k = x := ⟨_, rfl⟩
      obtain ⟨y, hy⟩ : ∃ y, nth hi k = y := ⟨_, rfl⟩
      have HX : Hid (nth (dimsX lo hi) k = dmI x y) := by rw [Hid, ← hx, ← hy]; exact mix_nth hlt hlt'
      have hn := HD.out k hlt
      unfold NearX at hn
      rw [hx, hy] at hn
      rw [hx] at ca
      rw [hy] at cb
      have hwr : IntKind.i64.wrap (y - x) = y - x := by rw [IntKind.wrap_i64]; omega
      have hsz := hbr.size
      have hKS : Keeps (fun w' => (gl < w'.heap.size ∧ w'.cell? ⟨gl, ol + k, none⟩ = some (.int .i64 x)) ∧ (gh < w'.heap.size ∧ w'.cell? ⟨gh, oh + k, none⟩ = some (.int .i64 y))) := (keeps_cell _ _ _).and (keeps_cell _ _ _)
      have hSg : ∀ z, Below w.heap.size w z → (fun w' => (gl < w'.heap.size ∧ w'.cell? ⟨gl, ol + k, none⟩ = some (.int .i64 x)) ∧ (gh < w'.heap.size ∧ w'.cell? ⟨gh, oh + k, none⟩ = some (.int .i64 y))) z := fun z hb => ⟨⟨Nat.lt_of_lt_of_le hgl hb.size, (hb.cell (p := ⟨gl, ol + k, none⟩) hgl).trans ca⟩, ⟨Nat.lt_of_lt_of_le hgh hb.size, (hb.cell (p := ⟨gh, oh + k, none⟩) hgh).trans cb⟩⟩
      have hS := hSg _ hbr
      have hbd := fun n => below_t hbr (below_drewN _ wr n)
      clear hx hy hml hn ca cb
      go_upto_region 5 with fail
      refine wp_region_noPanic ?_
      refine wp_region_held_drew (S := (fun w' => (gl < w'.heap.size ∧ w'.cell? ⟨gl, ol + k, none⟩ = some (.int .i64 x)) ∧ (gh < w'.heap.size ∧ w'.cell? ⟨gh, oh + k, none⟩ = some (.int .i64 y)))) (by kernel_rfl) ?_ (fun hHeld => ?_)
      · (try dsimp only); first | exact hS5 | exact hKS _ _ (by first | exact hHeld | exact hS) (by first | assumption | (go_grown; done) | (refine from_drew ?_; go_grown; done))
      refine takeH 0 (some 13) (v := ?_) rfl rfl (by kernel_rfl) (by kernel_rfl) (by kernel_rfl) (by rfl) ?_ (by exact hHeld) ?_
      rotate_left
      · intro w hSw; (try dsimp only at hSw); go_simp; try (with_reducible rfl)
      try simp only [Act.put, List.setIfInBounds_toArray, List.set_cons_zero, List.set_cons_succ]
      refine takeH 1 (some 14) (v := ?_) rfl rfl (by kernel_rfl) (by kernel_rfl) (by kernel_rfl) (by rfl) ?_ (by exact hHeld) ?_
      rotate_left
      · intro w hSw; (try dsimp only at hSw); go_simp; try (with_reducible rfl)
      try simp only [Act.put, List.setIfInBounds_toArray, List.set_cons_zero, List.set_cons_succ]
      refine takeH 2 (some 15) (v := ?_) rfl rfl (by kernel_rfl) (by kernel_rfl) (by kernel_rfl) (by rfl) ?_ (by exact hHeld) ?_
      rotate_left
      · intro w hSw; (try dsimp only at hSw); go_simp; try (with_reducible rfl)
      try simp only [Act.put, List.setIfInBounds_toArray, List.set_cons_zero, List.set_cons_succ]
      refine takeH 3 (some 16) (v := ?_) rfl rfl (by kernel_rfl) (by kernel_rfl) (by kernel_rfl) (by rfl) ?_ (by exact hHeld) ?_
      rotate_left
      · intro w hSw; (try dsimp only at hSw); go_simp; try (with_reducible rfl)
      try simp only [Act.put, List.setIfInBounds_toArray, List.set_cons_zero, List.set_cons_succ]
      refine takeH 4 (some 17) (v := ?_) rfl rfl (by kernel_rfl) (by kernel_rfl) (by kernel_rfl) (by rfl) ?_ (by exact hHeld) ?_
      rotate_left
      · intro w hSw; (try dsimp only at hSw); go_simp; try (with_reducible rfl)
      try simp only [Act.put, List.setIfInBounds_toArray, List.set_cons_zero, List.set_cons_succ]
      refine takeH 5 (some 18) (v := ?_) rfl rfl (by kernel_rfl) (by kernel_rfl) (by kernel_rfl) (by rfl) ?_ (by exact hHeld) ?_
      rotate_left
      · intro w hSw; (try dsimp only at hSw); go_simp; try (with_reducible rfl)
      try simp only [Act.put, List.setIfInBounds_toArray, List.set_cons_zero, List.set_cons_succ]
      refine takeH 6 (some 19) (v := ?_) rfl rfl (by kernel_rfl) (by kernel_rfl) (by kernel_rfl) (by rfl) ?_ (by exact hHeld) ?_
      rotate_left
      · intro w hSw; (try dsimp only at hSw); go_simp; try (with_reducible rfl)
      try simp only [Act.put, List.setIfInBounds_toArray, List.set_cons_zero, List.set_cons_succ]
      refine takeH 7 (some 20) (v := ?_) rfl rfl (by kernel_rfl) (by kernel_rfl) (by kernel_rfl) (by rfl) ?_ (by exact hHeld) ?_
      rotate_left
      · intro w hSw; (try dsimp only at hSw); go_simp; try (with_reducible rfl)
      try simp only [Act.put, List.setIfInBounds_toArray, List.set_cons_zero, List.set_cons_succ]
      refine takeH 8 (some 21) (v := ?_) rfl rfl (by kernel_rfl) (by kernel_rfl) (by kernel_rfl) (by rfl) ?_ (by exact hHeld) ?_
      rotate_left
      · intro w hSw; (try dsimp only at hSw); go_simp; try (with_reducible rfl)
      try simp only [Act.put, List.setIfInBounds_toArray, List.set_cons_zero, List.set_cons_succ]
      refine takeH 9 (some 22) (v := ?_) rfl rfl (by kernel_rfl) (by kernel_rfl) (by kernel_rfl) (by rfl) ?_ (by exact hHeld) ?_
      rotate_left
      · intro w hSw; (try dsimp only at hSw); go_simp; try (with_reducible rfl)
      try simp only [Act.put, List.setIfInBounds_toArray, List.set_cons_zero, List.set_cons_succ]
      refine wpAnyH_ready (rs := [10]) (by kernel_rfl) (by simp) ?_
      refine stepH 10 rfl (by rfl) (fun K hK => ?_) ?_
      · go_simp
        refine hK.out _ _ ?_ (fun hNew => ?_)
        · (try dsimp only); first | exact hS5 | exact hKS _ _ (by first | exact hHeld | exact hS) (by first | assumption | (go_grown; done) | (refine from_drew ?_; go_grown; done))
        clear hK K hHeld
        have hHeld := hNew
        clear hNew
        try dsimp only at hHeld
        try simp only [Act.put, List.setIfInBounds_toArray, List.set_cons_zero, List.set_cons_succ]
        refine wpAnyH_ready (rs := [11]) (by kernel_rfl) (by simp) ?_
        refine stepH 11 rfl (by rfl) (fun K hK => ?_) ?_
        · go_simp
          refine hK.out _ _ ?_ (fun hNew => ?_)
          · (try dsimp only); first | exact hS5 | exact hKS _ _ (by first | exact hHeld | exact hS) (by first | assumption | (go_grown; done) | (refine from_drew ?_; go_grown; done))
          clear hK K hHeld
          have hHeld := hNew
          clear hNew
          try dsimp only at hHeld
          try simp only [Act.put, List.setIfInBounds_toArray, List.set_cons_zero, List.set_cons_succ]
          refine wpAnyH_ready (rs := [12]) (by kernel_rfl) (by simp) ?_
          refine stepH 12 rfl (by rfl) (fun K hK => ?_) ?_
          · (refine wp_append_lone _ _ rfl w.heap.size v k _ rfl (hown.alloc _) wr.heap.size (dmI x y) rfl (heap_alloc_new _ _) (by omega) (by simp; omega) ?_); intro g5 cap5 w5 hown5 hgrow5 hat5; have hb5 := below_append (wr := wr.drewN _) (hbd _) hown hgrow5; have R5 := Lib.hid hown5; have hS5 := hSg _ hb5; clear hown5 hgrow5 hat5
            refine hK.out _ _ ?_ (fun hNew => ?_)
            · (try dsimp only); first | exact hS5 | exact hKS _ _ (by first | exact hHeld | exact hS) (by first | assumption | (go_grown; done) | (refine from_drew ?_; go_grown; done))
            clear hK K hHeld
            have hHeld := hNew
            clear hNew
            try dsimp only at hHeld
            try simp only [Act.put, List.setIfInBounds_toArray, List.set_cons_zero, List.set_cons_succ]
            refine takeH 13 (some 5) (v := ?_) rfl rfl (by kernel_rfl) (by kernel_rfl) (by kernel_rfl) (by rfl) ?_ (by exact hHeld) ?_
            rotate_left
            · intro w hSw; (try dsimp only at hSw); go_simp; try (with_reducible rfl)
            try simp only [Act.put, List.setIfInBounds_toArray, List.set_cons_zero, List.set_cons_succ]
            refine wpAnyH_done (by kernel_rfl) ?_ _
            refine NoPanic.normal ?_
            go_wp2_with fail
            all_goals (go_roundw; (case rel => exact ⟨k + 1, _, by omega, by go_num, rfl, by rw [Htk.out, HX.out, List.map_append]; exact R5.out, hb5⟩); (case measure => simp [intOf]; omega))
          exact AllReadyH.nil
        exact AllReadyH.nil
      exact AllReadyH.nil
    · have hi1 : ¬ (k : Int) < (lo.length : Int) := by omega
      have hke : k = lo.length := by omega
      have hown : wr.ownsRow w.heap.size 3 1 v lo.length ((dimsX lo hi).map (.int .i64)) := by
        rw [hke, List.take_of_length_le (by unfold dimsX; rw [mix_len hle]; omega)] at hown
        exact hown
      obtain ⟨r, c', rfl, hN⟩ := row_new hown
      clear hke hown
      go_wp2_with fail
      go_ret
      exact rowRet (by simp) r c' hN hbr
end Go.Proofs.Ythkfjdhakbjllaa
