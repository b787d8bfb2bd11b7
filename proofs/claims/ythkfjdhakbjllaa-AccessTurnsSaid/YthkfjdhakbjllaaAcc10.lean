/- The reference's add and Permute of layer 17; access.Permute of a fill; that both Permutes are one. Conditions: the axes are in range, the numbers not too large. -/
import Derived.Test.YthkfjdhakbjllaaLaw17b
namespace Go.Proofs.Ythkfjdhakbjllaa
open Go.RowKit Go.Shelf
set_option linter.unusedVariables false
set_option linter.unusedSimpArgs false

set_option maxRecDepth 100000 in
set_option maxHeartbeats 2000000 in
theorem add_2 (k b e : Int) (p : Option Addr) (n c : Nat) (st sp md : Int) (q : Option Addr) (m d : Nat) (w : World) (he1 : -1000000000000 ≤ e) (he2 : e ≤ 1000000000000) (hs1 : -1000000000000 ≤ st) (hs2 : st ≤ 1000000000000) (hk : k = 2) :
    Calls Try.prog 113 #[.agg #[.int .i64 k, .int .i64 b, .int .i64 e, .slice p n c, .int .i64 st, .int .i64 sp, .int .i64 md], .int .i64 0, .slice q m d] w fun e' w' => e' = .returned (.agg #[.int .i64 k, .int .i64 b, .int .i64 e, .slice q m d, .int .i64 st, .int .i64 sp, .int .i64 md]) ∧ Below w.heap.size w w' := by
  have hk2 : (k == 2) = true := by simp [hk]
  have hk3 : (k == 3) = false := by simp [hk]
  clear hk
  go_enter Try.func113, Try.ntmps113
  go_wp2
  refine bodyPost_ret (v := .agg #[.int .i64 k, .int .i64 b, .int .i64 e, .slice q m d, .int .i64 st, .int .i64 sp, .int .i64 md]) (by simp [results, Try.results113, go_sem]) rfl ⟨rfl, ?_⟩
  go_grown

set_option maxRecDepth 100000 in
set_option maxHeartbeats 2000000 in
theorem add_3 (k b e : Int) (p : Option Addr) (n c : Nat) (st sp md : Int) (q : Option Addr) (m d : Nat) (w : World) (he1 : -1000000000000 ≤ e) (he2 : e ≤ 1000000000000) (hs1 : -1000000000000 ≤ st) (hs2 : st ≤ 1000000000000) (hk : k = 3) :
    Calls Try.prog 113 #[.agg #[.int .i64 k, .int .i64 b, .int .i64 e, .slice p n c, .int .i64 st, .int .i64 sp, .int .i64 md], .int .i64 0, .slice q m d] w fun e' w' => e' = .returned (.agg #[.int .i64 k, .int .i64 b, .int .i64 e, .slice q m d, .int .i64 st, .int .i64 sp, .int .i64 md]) ∧ Below w.heap.size w w' := by
  have hk2 : (k == 2) = false := by simp [hk]
  have hk3 : (k == 3) = true := by simp [hk]
  clear hk
  go_enter Try.func113, Try.ntmps113
  go_wp2
  refine bodyPost_ret (v := .agg #[.int .i64 k, .int .i64 b, .int .i64 e, .slice q m d, .int .i64 st, .int .i64 sp, .int .i64 md]) (by simp [results, Try.results113, go_sem]) rfl ⟨rfl, ?_⟩
  go_grown

set_option maxRecDepth 100000 in
set_option maxHeartbeats 2000000 in
theorem add_0 (k b e : Int) (p : Option Addr) (n c : Nat) (st sp md : Int) (q : Option Addr) (m d : Nat) (w : World) (he1 : -1000000000000 ≤ e) (he2 : e ≤ 1000000000000) (hs1 : -1000000000000 ≤ st) (hs2 : st ≤ 1000000000000) (h2 : k ≠ 2) (h3 : k ≠ 3) :
    Calls Try.prog 113 #[.agg #[.int .i64 k, .int .i64 b, .int .i64 e, .slice p n c, .int .i64 st, .int .i64 sp, .int .i64 md], .int .i64 0, .slice q m d] w fun e' w' => e' = .returned (.agg #[.int .i64 k, .int .i64 b, .int .i64 e, .slice q m d, .int .i64 st, .int .i64 sp, .int .i64 md]) ∧ Below w.heap.size w w' := by
  have hk2 : (k == 2) = false := by simp [h2]
  have hk3 : (k == 3) = false := by simp [h3]
  clear h2 h3
  go_enter Try.func113, Try.ntmps113
  go_wp2
  refine bodyPost_ret (v := .agg #[.int .i64 k, .int .i64 b, .int .i64 e, .slice q m d, .int .i64 st, .int .i64 sp, .int .i64 md]) (by simp [results, Try.results113, go_sem]) rfl ⟨rfl, ?_⟩
  go_grown

theorem add_any (k b e : Int) (p : Option Addr) (n c : Nat) (st sp md : Int) (q : Option Addr) (m d : Nat) (w : World) (he1 : -1000000000000 ≤ e) (he2 : e ≤ 1000000000000) (hs1 : -1000000000000 ≤ st) (hs2 : st ≤ 1000000000000) :
    Calls Try.prog 113 #[.agg #[.int .i64 k, .int .i64 b, .int .i64 e, .slice p n c, .int .i64 st, .int .i64 sp, .int .i64 md], .int .i64 0, .slice q m d] w fun e' w' => e' = .returned (.agg #[.int .i64 k, .int .i64 b, .int .i64 e, .slice q m d, .int .i64 st, .int .i64 sp, .int .i64 md]) ∧ Below w.heap.size w w' := by
  by_cases h2 : k = 2
  · exact add_2 k b e p n c st sp md q m d w he1 he2 hs1 hs2 h2
  · by_cases h3 : k = 3
    · exact add_3 k b e p n c st sp md q m d w he1 he2 hs1 hs2 h3
    · exact add_0 k b e p n c st sp md q m d w he1 he2 hs1 hs2 h2 h3

/-- the strides that come to an axis, summed -/
def sumAt : List Int → List Int → Int → Int
  | p :: ps, y :: ys, j => (if p = j then y else 0) + sumAt ps ys j
  | _, _, _ => 0
theorem sumAt_step {ps ys : List Int} {k : Nat} {j : Int} (h1 : k < ps.length) (h2 : k < ys.length) : sumAt (ps.drop k) (ys.drop k) j = (if nth ps k = j then nth ys k else 0) + sumAt (ps.drop (k + 1)) (ys.drop (k + 1)) j := by
  rw [drop_nth h1, drop_nth h2, sumAt]
theorem sumAt_end {ps ys : List Int} {k : Nat} {j : Int} (h : ps.length ≤ k) : sumAt (ps.drop k) (ys.drop k) j = 0 := by
  rw [List.drop_eq_nil_of_le h]
  cases ys.drop k <;> rfl
theorem sumAt_bd : ∀ (ps ys : List Int) (j : Int), (∀ y ∈ ys, -1000000000 ≤ y ∧ y ≤ 1000000000) → -(1000000000 * ps.length : Int) ≤ sumAt ps ys j ∧ sumAt ps ys j ≤ 1000000000 * ps.length
  | [], ys, j, _ => by cases ys <;> simp [sumAt]
  | p :: ps, [], j, _ => by simp only [sumAt, List.length_cons]; omega
  | p :: ps, y :: ys, j, h => by
    have h1 := sumAt_bd ps ys j fun z hz => h z (List.mem_cons_of_mem _ hz)
    have h2 := h y (List.mem_cons_self ..)
    simp only [sumAt, List.length_cons]
    split <;> omega
def refS (perm ys : List Int) (m : Nat) : List Int := (List.range m).map fun j : Nat => sumAt perm ys (j : Int)
theorem refS_len (perm ys : List Int) (m : Nat) : (refS perm ys m).length = m := by simp [refS]
theorem refS_nth (perm ys : List Int) {m j : Nat} (hj : j < m) : nth (refS perm ys m) j = sumAt perm ys j := by
  simp [refS, nth, List.getD_eq_getElem?_getD, hj]

set_option maxRecDepth 100000 in
set_option maxHeartbeats 4000000 in
theorem RPermute_any (k b e : Int) (p : Option Addr) (c : Nat) (s : List Int) (st sp md : Int) (q : Option Addr) (d : Nat) (perm : List Int) (m : Nat) (w : World) (h : Ints w p s) (h' : Ints w q perm) (hk : k ≠ 1) (hl : perm.length = s.length) (hp : perm.length ≤ 16) (hm : m ≤ 1000) (hy : ∀ y ∈ s, -1000000000 ≤ y ∧ y ≤ 1000000000) (he1 : -1000000000000 ≤ e) (he2 : e ≤ 1000000000000) (hs1 : -1000000000000 ≤ st) (hs2 : st ≤ 1000000000000) :
    Calls Try.prog 73 #[.agg #[.int .i64 k, .int .i64 b, .int .i64 e, .slice p s.length c, .int .i64 st, .int .i64 sp, .int .i64 md], .slice q perm.length d, .int .i64 m] w (MovedTo w k b e (refS perm s m) st sp md) := by
  have hkb : (k == 1) = false := by simp [hk]
  have hls : perm.length ≤ s.length := by omega
  have hsl : s.length ≤ 16 := by omega
  have Hy := Lib.hid hy
  have Hl := Lib.hid hl
  clear hk hl hy
  obtain ⟨W, hW⟩ : ∃ W, (w.alloc (.cells #[.int .i64 k, .int .i64 b, .int .i64 e, .slice p s.length c, .int .i64 st, .int .i64 sp, .int .i64 md] 89)).alloc (.cells #[.int .i64 0, .int .i64 0, .int .i64 0, .slice none 0 0, .int .i64 0, .int .i64 0, .int .i64 0] 89) = W := ⟨_, rfl⟩
  have hbW : Below w.heap.size w W := by rw [← hW]; go_grown
  have A : At7 W w.heap.size k b e (.slice p s.length c) st sp md := by rw [← hW]; exact (At7.new w _ k b e (.slice p s.length c) st sp md 89 rfl).keep (below_alloc _ _)
  have hR : At7 W (w.heap.size + 1) 0 0 0 (.slice none 0 0) 0 0 0 := by rw [← hW]; exact At7.new _ _ 0 0 0 (.slice none 0 0) 0 0 0 89 (by simp)
  have hRf : ∀ i, W.frozen? ⟨w.heap.size + 1, i, none⟩ = false := by intro i; rw [← hW]; simp [go_sem]
  have HRf := Lib.hid hRf
  have HW := Lib.hid hW
  have hWs := hR.lt
  clear hRf hW
  go_enter Try.func73, Try.ntmps73
  go_wp2_with fail
  rw [HW.out]
  go_loopw [7, 8] (fun o i wr => ∃ (j : Nat), j ≤ m ∧ i = .int .i64 j ∧ wr.ownsRow W.heap.size 3 1 o j (((refS perm s m).take j).map (.int .i64)) ∧ Below W.heap.size W wr) (fun _ i _ => m - (intOf i).toNat)
  case atStart => exact ⟨0, Nat.zero_le _, rfl, by simpa using World.ownsRow_nil _ _ _ _, Below.refl _ _⟩
  case round =>
    obtain ⟨j, hj, rfl, hown, hbr⟩ := hrel
    have A1 := A.keep hbr
    have hbw := below_t hbW hbr
    by_cases hlt : j < m
    · have hx3 := A1.c3
      have hbs := hbr.size
      have hjl : j < (refS perm s m).length := by rw [refS_len]; exact hlt
      have Htk := Lib.hid (take_nth hjl)
      have Hn := Lib.hid (refS_nth perm s hlt)
      go_wp2_with fail
      go_loop [9, 10] (fun n i => ∃ (kk : Nat) (u : Int), kk ≤ perm.length ∧ i = .int .i64 kk ∧ n = .int .i64 u ∧ Hid (u + sumAt (perm.drop kk) (s.drop kk) j = sumAt perm s j ∧ -(kk * 1000000000 : Int) ≤ u ∧ u ≤ kk * 1000000000)) (fun _ i => perm.length - (intOf i).toNat)
      case atStart => exact ⟨0, 0, Nat.zero_le _, rfl, rfl, by simp [Hid]⟩
      case round =>
        obtain ⟨kk, u, hkk, rfl, rfl, hI⟩ := hrel
        by_cases hlk : kk < perm.length
        · have hlk2 : kk < s.length := by omega
          obtain ⟨b1, o1, rfl, -, hc1⟩ := (h'.keep hbw).at hlk
          obtain ⟨b2, o2, rfl, -, hc2⟩ := (h.keep hbw).at hlk2
          have hyk := Hy.out _ (nth_mem hlk2)
          have hst := sumAt_step (j := (j : Int)) hlk hlk2
          obtain ⟨hI1, hI2, hI3⟩ := hI.out
          rw [hst] at hI1
          obtain ⟨y, hyy⟩ : ∃ y, nth s kk = y := ⟨_, rfl⟩
          obtain ⟨z, hzz⟩ : ∃ z, nth perm kk = z := ⟨_, rfl⟩
          rw [hyy] at hc2 hyk hI1
          rw [hzz] at hc1 hI1
          have hkki : (kk : Int) < (s.length : Int) := by omega
          have hkkp : (kk : Int) < (perm.length : Int) := by omega
          have hk16 : (kk : Int) ≤ 16 := by omega
          by_cases hzj : z = (j : Int)
          · have hzb : (z == (j : Int)) = true := by simp [hzj]
            rw [if_pos hzj] at hI1
            have Hnew : Hid (u + y + sumAt (perm.drop (kk + 1)) (s.drop (kk + 1)) j = sumAt perm s j ∧ -((kk + 1 : Nat) * 1000000000 : Int) ≤ u + y ∧ u + y ≤ (kk + 1 : Nat) * 1000000000) := ⟨by omega, by omega, by omega⟩
            clear hst hI hI1 hyy hzz hzj
            go_wp2
            go_round
            case rel => exact ⟨kk + 1, u + y, by omega, by go_num, rfl, Hnew⟩
            case measure => simp [intOf]; omega
          · have hzb : (z == (j : Int)) = false := by simp [hzj]
            rw [if_neg hzj] at hI1
            have Hnew : Hid (u + sumAt (perm.drop (kk + 1)) (s.drop (kk + 1)) j = sumAt perm s j ∧ -((kk + 1 : Nat) * 1000000000 : Int) ≤ u ∧ u ≤ (kk + 1 : Nat) * 1000000000) := ⟨by omega, by omega, by omega⟩
            clear hst hI hI1 hyy hzz hzj
            go_wp2
            go_round
            case rel => exact ⟨kk + 1, u, by omega, by go_num, rfl, Hnew⟩
            case measure => simp [intOf]; omega
        · have hue : u = sumAt perm s j := by
            have := hI.out.1
            rw [sumAt_end (by omega)] at this
            omega
          have Hue := Lib.hid hue
          clear hue hI
          go_wp2_with (at_builtin; refine append_ints rfl _ _ rfl W.heap.size _ j _ rfl (hown.alloc _) (some ⟨wr.heap.size, 0, none⟩) 1 [u] rfl (cells_one _ _ _ _ rfl) (by simp; omega) (by simp; omega) ?_; intro v' w1 hown1 hg1)
          have hb1 := below_append hbr hown hg1
          go_roundw
          case rel => exact ⟨j + 1, by omega, by go_num, by rw [Htk.out, Hn.out, ← Hue.out, List.map_append]; exact hown1, hb1⟩
          case measure => simp [intOf]; omega
    · obtain ⟨p2, c2, rfl, hnew⟩ := row_new hown
      rw [List.take_of_length_le (by rw [refS_len]; omega)] at hnew ⊢
      have hlm : ((refS perm s m).map (Value.int .i64)).length = m := by rw [List.length_map, refS_len]
      have Hlm := Lib.hid hlm
      have Hnew := Lib.hid hnew
      have hx0 := A1.c0
      have hx1 := A1.c1
      have hx2 := A1.c2
      have hx3 := A1.c3
      have hx4 := A1.c4
      have hx5 := A1.c5
      have hx6 := A1.c6
      clear hlm hnew hown
      go_wp2_with fail
      refine (add_any k b e p s.length c st sp md p2 _ c2 _ he1 he2 hs1 hs2).mono ?_
      rintro e2 w2 ⟨rfl, hb2⟩
      have hR2 := hR.keep (below_t hbr hb2)
      have hf := fun i => ((below_t hbr hb2).frozen (p := ⟨w.heap.size + 1, i, none⟩) hWs).trans (HRf.out i)
      have q0 := hR2.c0
      have q1 := hR2.c1
      have q2 := hR2.c2
      have q3 := hR2.c3
      have q4 := hR2.c4
      have q5 := hR2.c5
      have q6 := hR2.c6
      have f0 := hf 0
      have f1 := hf 1
      have f2 := hf 2
      have f3 := hf 3
      have f4 := hf 4
      have f5 := hf 5
      have f6 := hf 6
      clear hx0 hx1 hx2 hx3 hx4 hx5 hx6 hf
      go_wp2_with fail
      refine bodyPost_ret (v := .agg #[.int .i64 k, .int .i64 b, .int .i64 e, .slice p2 (refS perm s m).length c2, .int .i64 st, .int .i64 sp, .int .i64 md]) (by simp [results, Try.results73, go_sem, q0, q1, q2, q3, q4, q5, q6]) rfl ?_
      have hI64 : ∀ x ∈ refS perm s m, I64 x := by
        intro x hx
        obtain ⟨j', -, rfl⟩ := List.mem_map.1 hx
        have := sumAt_bd perm s j' Hy.out
        exact ⟨by omega, by omega⟩
      have hN : New W.heap.size w2 p2 3 ((refS perm s m).map (.int .i64)) := Hnew.out.keep' hb2
      have hbf := below_t hbw hb2
      refine ⟨⟨p2, c2, rfl, ?_⟩, ?_⟩
      · exact (((((((hN.other (by exact hWs) _).other (by exact hWs) _).other (by exact hWs) _).other (by exact hWs) _).other (by exact hWs) _).other (by exact hWs) _).other (by exact hWs) _).ints hI64 (by rw [refS_len]; omega)
      · exact ((((((hbf.setCell (Nat.le_succ _) _).setCell (Nat.le_succ _) _).setCell (Nat.le_succ _) _).setCell (Nat.le_succ _) _).setCell (Nat.le_succ _) _).setCell (Nat.le_succ _) _).setCell (Nat.le_succ _) _
end Go.Proofs.Ythkfjdhakbjllaa
