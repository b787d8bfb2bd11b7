/- spec.Permutation. No condition beyond what each says. -/
import Derived.Test.YtolkgjbljdmadaaSpec3
namespace Go.Proofs.Ytolkgjbljdmadaa
open Go.RowKit Go.Shelf
set_option linter.unusedVariables false
set_option linter.unusedSimpArgs false

theorem Perm_len (p : Option Addr) (c : Nat) (vs : List Int) (sc : Bool) (r : Int) (w : World) (hr : (vs.length : Int) ≠ r) :
    Calls Try.prog 12 #[.agg #[.slice p vs.length c, .bool sc], .int .i64 r] w fun e w' =>
      e = .returned (.tuple #[.slice none 0 0, .int .i64 5]) ∧ Below w.heap.size w w' := by
  go_enter Try.func12, Try.ntmps12
  go_wp2_with fail
  refine (Exactly_no p c vs sc r _ hr).mono ?_
  rintro e w' ⟨rfl, hb⟩
  go_wp2_with fail
  go_ret2
  exact ⟨rfl, below_2 hb⟩

/-- the world in which spec.Permutation begins to convert -/
theorem perm_start (vs : List Int) (r : Int) (w w1 W : World) (hW : (w1.alloc (.map #[] 0)).alloc (.cells #[.map (some w1.heap.size)] 80) = W) (hR : w1.cell? ⟨w.heap.size + 1, 0, none⟩ = some (.int .i64 r)) (hlt : w.heap.size + 1 < w1.heap.size) (hb : Below w.heap.size w w1) :
    Seen (w.heap.size + 1) (w1.heap.size + 1) w1.heap.size r vs 0 W ∧ Below w1.heap.size w1 W ∧ W.heap.size = w1.heap.size + 2 := by
  have hbW : Below w1.heap.size w1 W := by rw [← hW]; exact (below_alloc w1 _).alloc (by simp) _
  refine ⟨⟨(hbW.cell (p := ⟨w.heap.size + 1, 0, none⟩) hlt).trans hR, ?_, ?_⟩, hbW, ?_⟩
  · rw [← hW]; simp [go_sem]
  · rw [← hW, List.take_zero, seenD_nil]
    exact (World.ownsMap_made w1 _ _ _).alloc _
  · rw [← hW]; simp

set_option maxHeartbeats 1000000 in
theorem Perm_out (p : Option Addr) (c : Nat) (vs : List Int) (sc : Bool) (w : World) (h : Ints w p vs) (hl : vs.length ≤ 1000000) (m : Nat) (hm : m < vs.length) (hall : ∀ j, j < m → (axisS vs.length (nth vs j)).2 = 0) (he : (axisS vs.length (nth vs m)).2 = 6) :
    Calls Try.prog 12 #[.agg #[.slice p vs.length c, .bool sc], .int .i64 vs.length] w fun e w' =>
      e = .returned (.tuple #[.slice none 0 0, .int .i64 6]) ∧ Below w.heap.size w w' := by
  have hmm := @run_makeMap Try.prog
  have Hall := Lib.hid hall
  have He := Lib.hid he
  have hi := h.i64
  have Hi := Lib.hid hi
  clear hall he hi
  go_enter Try.func12, Try.ntmps12
  go_wp2_with fail
  refine (Exactly_yes p c vs sc _ (h.keep (below_t (below_alloc _ _) (below_alloc _ _))) hl).mono ?_
  rintro e1 w1 ⟨⟨q, cq, rfl, hnew⟩, hb1⟩
  have hlt1 : w.heap.size + 1 < w1.heap.size := by have := hb1.size; simp at this; omega
  have hR1 : w1.cell? ⟨w.heap.size + 1, 0, none⟩ = some (.int .i64 vs.length) := by
    rw [hb1.cell (p := ⟨w.heap.size + 1, 0, none⟩) (by simp)]
    simp [go_sem]
  have hq := hnew.ints Hi.out h.small
  have hb := below_2 hb1
  obtain ⟨W, hW⟩ : ∃ W, (w1.alloc (.map #[] 0)).alloc (.cells #[.map (some w1.heap.size)] 80) = W := ⟨_, rfl⟩
  obtain ⟨hI, hbW, hWs⟩ := perm_start vs _ w w1 W hW hR1 hlt1 hb
  have HW := Lib.hid hW
  have HI := Lib.hid hI
  have Hq : Hid (Ints W q vs ∧ (vs = [] ∨ ∀ x y, q = some ⟨x, y, none⟩ → ¬ some x = some w1.heap.size)) := by
    refine ⟨hq.keep hbW, ?_⟩
    rcases hq.cells with h' | ⟨b, off, hp, hlt, -⟩
    · exact .inl (by simpa using h')
    · refine .inr fun x y hxy hx => ?_
      rw [hp] at hxy
      cases hxy
      cases hx
      omega
  clear hW hI hnew hq hb1
  go_wp2_with fail
  rw [HW.out]
  refine (converted_no 42 #[] _ (some w1.heap.size) (Seen (w.heap.size + 1) (w1.heap.size + 1) w1.heap.size vs.length vs) (axisS vs.length) vs (enters_of Try.func42 (by kernel_rfl) rfl) q cq W Hq.out.1 hl (perm_conv _ _ _ _ _ vs Hi.out hl (by omega) (by omega) (by omega) (by omega) (by omega)) HI.out (fun k hk => by cases hk; omega) Hq.out.2 m hm Hall.out 6 He.out (by decide)).mono ?_
  rintro e2 w2 ⟨rfl, hch⟩
  have hb2 := hb.trans ((hbW.trans (hch.below (B := w1.heap.size) (by omega) (fun k hk => by cases hk; omega))).mono (by omega))
  go_wp2_with fail
  go_ret2
  exact ⟨rfl, hb2⟩
end Go.Proofs.Ytolkgjbljdmadaa
