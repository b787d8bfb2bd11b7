/- Trees: size, depth, numbers, in the program and in the reference. No condition beyond what each says. -/
import Derived.Test.YtjehgcmcphgofaaTr1
namespace Go.Proofs.Ytjehgcmcphgofaa
open Go.RowKit Go.Shelf
set_option linter.unusedVariables false
set_option linter.unusedSimpArgs false

/-- a sum as Go reckons it -/
def accW : Nat → (Nat → Int) → Int → Int
  | 0, _, a => a
  | k + 1, f, a => wrap64 (accW k f a + f k)
def numsW : TV → Int
  | .nil => 0
  | .mk d kids => accW d.n (fun i => numsW (kids i)) (d.nums.length : Int)

set_option maxHeartbeats 1000000 in
theorem Size_step (d : TD) (kids : Nat → TV) (ih : ∀ i w, sizeT (kids i) ≤ 100000 → TreeIn w (kids i) → Calls Try.prog 12 #[.agg #[.int .i64 (kids i).d.kind, .int .i64 (kids i).d.fn, .int .i64 (kids i).d.axis, .string (kids i).d.name, .slice (kids i).d.np (kids i).d.nums.length (kids i).d.nc, .slice (kids i).d.kp (kids i).d.n (kids i).d.kc]] w fun e w' => e = .returned (.int .i64 ((sizeT (kids i) : Nat))) ∧ Below w.heap.size w w')
    (w : World) (hs : sizeT (.mk d kids) ≤ 100000) (h : TreeIn w (.mk d kids)) : Calls Try.prog 12 #[.agg #[.int .i64 d.kind, .int .i64 d.fn, .int .i64 d.axis, .string d.name, .slice d.np d.nums.length d.nc, .slice d.kp d.n d.kc]] w fun e w' => e = .returned (.int .i64 ((sizeT (.mk d kids) : Nat))) ∧ Below w.heap.size w w' := by
  have hba := below_alloc w (.cells #[.int .i64 d.kind, .int .i64 d.fn, .int .i64 d.axis, .string d.name, .slice d.np d.nums.length d.nc, .slice d.kp d.n d.kc] 25)
  have A := At6.new w _ d 25 rfl
  have hn := h.small
  have hnn := h.nums.small
  have HT := Lib.hid (h.keep hba)
  have IH := Lib.hid ih
  have HS := Lib.hid hs
  clear h ih hs
  obtain ⟨W, hW⟩ : ∃ W, w.alloc (.cells #[.int .i64 d.kind, .int .i64 d.fn, .int .i64 d.axis, .string d.name, .slice d.np d.nums.length d.nc, .slice d.kp d.n d.kc] 25) = W := ⟨_, rfl⟩
  rw [hW] at A hba HT
  have HW := Lib.hid hW
  have hA4 := A.c4
  have hA5 := A.c5
  have hAlt := A.lt
  have HBA := Lib.hid hba
  clear hW A hba
  go_enter Try.func12, Try.ntmps12
  go_wp2_with fail
  rw [HW.out]
  clear HW
  go_wp2_with fail
  obtain ⟨q, hq⟩ : ∃ q, d.kp = q := ⟨_, rfl⟩
  have HQ := Lib.hid hq
  rw [hq] at hA5 ⊢
  clear hq
  go_loopw [3, 9] (fun x i wr => ∃ (k : Nat) (y : Int) (wz : World), wz = wr ∧ k ≤ d.n ∧ i = .int .i64 k ∧ x = .int .i64 y ∧ Hid (y = ((1 + sumTo k (fun i => sizeT (kids i)) : Nat) : Int)) ∧ Hid (Below W.heap.size W wz)) (fun _ i _ => d.n - (intOf i).toNat)
  case atStart => exact ⟨0, _, W, rfl, Nat.zero_le _, rfl, rfl, by simp [Hid, sumTo, maxTo, accW], Below.refl _ _⟩
  case round =>
    obtain ⟨k, y, wz, rfl, hk, rfl, rfl, hY, hB⟩ := hrel
    have hA5 := (hB.out.cell (p := ⟨w.heap.size, 5, none⟩) hAlt).trans hA5
    by_cases hlt : k < d.n
    · have hi1 : (k : Int) < (d.n : Int) := by omega
      obtain ⟨⟨g, o, e1, hg, N⟩, hT⟩ := (HT.out.keep hB.out).kid hlt
      have c0 := N.c0
      have c1 := N.c1
      have c2 := N.c2
      have c3 := N.c3
      have c4 := N.c4
      have c5 := N.c5
      obtain rfl : q = some ⟨g, o, none⟩ := HQ.out.symm.trans e1
      have HTk := Lib.hid (hT.keep (below_alloc wz (.cells #[.int .i64 (kids k).d.kind, .int .i64 (kids k).d.fn, .int .i64 (kids k).d.axis, .string (kids k).d.name, .slice (kids k).d.np (kids k).d.nums.length (kids k).d.nc, .slice (kids k).d.kp (kids k).d.n (kids k).d.kc] 25)))
      have hB2 := Lib.hid (below_t hB.out (below_alloc wz (.cells #[.int .i64 (kids k).d.kind, .int .i64 (kids k).d.fn, .int .i64 (kids k).d.axis, .string (kids k).d.name, .slice (kids k).d.np (kids k).d.nums.length (kids k).d.nc, .slice (kids k).d.kp (kids k).d.n (kids k).d.kc] 25)))
      have hsk : Hid (sizeT (kids k) ≤ 100000) := by
        have h1 := HS.out
        have h2 := sumTo_at (f := fun i => sizeT (kids i)) hlt
        simp only [sizeT] at h1
        rw [Hid]; omega
      have hyb : Hid (0 ≤ y ∧ y + (sizeT (kids k) : Int) ≤ 100000) := by
        have h1 := HS.out
        have h2 := sumTo_at (f := fun i => sizeT (kids i)) hlt
        have h3 := hY.out
        simp only [sizeT] at h1
        rw [Hid]; omega
      have hw1 : wrap64 (y + (sizeT (kids k) : Int)) = y + (sizeT (kids k) : Int) := wrap64_id (by have := hyb.out; omega) (by have := hyb.out; omega)
      have hw2 : IntKind.i64.wrap (y + (sizeT (kids k) : Int)) = y + (sizeT (kids k) : Int) := wrapK_id (by have := hyb.out; omega) (by have := hyb.out; omega)

      clear N hT e1
      go_wp2_with fail
      refine (IH.out k _ hsk.out HTk.out).mono ?_
      rintro e w' ⟨rfl, hb'⟩
      have HB' := Lib.hid (below_t hB2.out hb')
      have HN : Hid (∀ z, z = y + (sizeT (kids k) : Int) → z = ((1 + sumTo (k + 1) (fun i => sizeT (kids i)) : Nat) : Int)) := by
        intro z hz
        have h1 := hY.out
        simp only [sumTo]
        omega
      clear c0 c1 c2 c3 c4 c5 hb'
      go_wp2_with fail
      all_goals
        go_roundw
        case rel => exact ⟨k + 1, _, w', rfl, by omega, by go_num, rfl, HN.out _ (rfl), HB'⟩
        case measure => simp [intOf]; omega
    · have hi1 : ¬ (k : Int) < (d.n : Int) := by omega
      have HR : Hid ((sizeT (.mk d kids) : Nat) = y) := by
        have h1 := hY.out
        have h2 : k = d.n := by omega
        subst h2
        rw [Hid, h1]; rfl
      skip
      skip
      go_wp2_with fail
      go_ret
      exact ⟨ret_int HR.out.symm, below_t HBA.out hB.out⟩
theorem Size_any : ∀ (t : TV) (w : World), sizeT t ≤ 100000 → TreeIn w t → Calls Try.prog 12 #[.agg #[.int .i64 t.d.kind, .int .i64 t.d.fn, .int .i64 t.d.axis, .string t.d.name, .slice t.d.np t.d.nums.length t.d.nc, .slice t.d.kp t.d.n t.d.kc]] w fun e w' => e = .returned (.int .i64 ((sizeT t : Nat))) ∧ Below w.heap.size w w'
  | .nil, _, _, h => h.no
  | .mk d kids, w, hs, h => Size_step d kids (fun i => Size_any (kids i)) w hs h

set_option maxHeartbeats 1000000 in
theorem RSize_step (d : TD) (kids : Nat → TV) (ih : ∀ i w, sizeT (kids i) ≤ 100000 → TreeIn w (kids i) → Calls Try.prog 13 #[.agg #[.int .i64 (kids i).d.kind, .int .i64 (kids i).d.fn, .int .i64 (kids i).d.axis, .string (kids i).d.name, .slice (kids i).d.np (kids i).d.nums.length (kids i).d.nc, .slice (kids i).d.kp (kids i).d.n (kids i).d.kc]] w fun e w' => e = .returned (.int .i64 ((sizeT (kids i) : Nat))) ∧ Below w.heap.size w w')
    (w : World) (hs : sizeT (.mk d kids) ≤ 100000) (h : TreeIn w (.mk d kids)) : Calls Try.prog 13 #[.agg #[.int .i64 d.kind, .int .i64 d.fn, .int .i64 d.axis, .string d.name, .slice d.np d.nums.length d.nc, .slice d.kp d.n d.kc]] w fun e w' => e = .returned (.int .i64 ((sizeT (.mk d kids) : Nat))) ∧ Below w.heap.size w w' := by
  have hba := below_alloc w (.cells #[.int .i64 d.kind, .int .i64 d.fn, .int .i64 d.axis, .string d.name, .slice d.np d.nums.length d.nc, .slice d.kp d.n d.kc] 25)
  have A := At6.new w _ d 25 rfl
  have hn := h.small
  have hnn := h.nums.small
  have HT := Lib.hid (h.keep hba)
  have IH := Lib.hid ih
  have HS := Lib.hid hs
  clear h ih hs
  obtain ⟨W, hW⟩ : ∃ W, w.alloc (.cells #[.int .i64 d.kind, .int .i64 d.fn, .int .i64 d.axis, .string d.name, .slice d.np d.nums.length d.nc, .slice d.kp d.n d.kc] 25) = W := ⟨_, rfl⟩
  rw [hW] at A hba HT
  have HW := Lib.hid hW
  have hA4 := A.c4
  have hA5 := A.c5
  have hAlt := A.lt
  have HBA := Lib.hid hba
  clear hW A hba
  go_enter Try.func13, Try.ntmps13
  go_wp2_with fail
  rw [HW.out]
  clear HW
  go_wp2_with fail
  obtain ⟨q, hq⟩ : ∃ q, d.kp = q := ⟨_, rfl⟩
  have HQ := Lib.hid hq
  rw [hq] at hA5 ⊢
  clear hq
  go_loopw [3, 4] (fun x i wr => ∃ (k : Nat) (y : Int) (wz : World), wz = wr ∧ k ≤ d.n ∧ i = .int .i64 k ∧ x = .int .i64 y ∧ Hid (y = ((1 + sumTo k (fun i => sizeT (kids i)) : Nat) : Int)) ∧ Hid (Below W.heap.size W wz)) (fun _ i _ => d.n - (intOf i).toNat)
  case atStart => exact ⟨0, _, W, rfl, Nat.zero_le _, rfl, rfl, by simp [Hid, sumTo, maxTo, accW], Below.refl _ _⟩
  case round =>
    obtain ⟨k, y, wz, rfl, hk, rfl, rfl, hY, hB⟩ := hrel
    have hA5 := (hB.out.cell (p := ⟨w.heap.size, 5, none⟩) hAlt).trans hA5
    by_cases hlt : k < d.n
    · have hi1 : (k : Int) < (d.n : Int) := by omega
      obtain ⟨⟨g, o, e1, hg, N⟩, hT⟩ := (HT.out.keep hB.out).kid hlt
      have c0 := N.c0
      have c1 := N.c1
      have c2 := N.c2
      have c3 := N.c3
      have c4 := N.c4
      have c5 := N.c5
      obtain rfl : q = some ⟨g, o, none⟩ := HQ.out.symm.trans e1
      have HTk := Lib.hid hT
      have hB2 := Lib.hid hB.out
      have hsk : Hid (sizeT (kids k) ≤ 100000) := by
        have h1 := HS.out
        have h2 := sumTo_at (f := fun i => sizeT (kids i)) hlt
        simp only [sizeT] at h1
        rw [Hid]; omega
      have hyb : Hid (0 ≤ y ∧ y + (sizeT (kids k) : Int) ≤ 100000) := by
        have h1 := HS.out
        have h2 := sumTo_at (f := fun i => sizeT (kids i)) hlt
        have h3 := hY.out
        simp only [sizeT] at h1
        rw [Hid]; omega
      have hw1 : wrap64 (y + (sizeT (kids k) : Int)) = y + (sizeT (kids k) : Int) := wrap64_id (by have := hyb.out; omega) (by have := hyb.out; omega)
      have hw2 : IntKind.i64.wrap (y + (sizeT (kids k) : Int)) = y + (sizeT (kids k) : Int) := wrapK_id (by have := hyb.out; omega) (by have := hyb.out; omega)

      clear N hT e1
      go_wp2_with fail
      refine (IH.out k _ hsk.out HTk.out).mono ?_
      rintro e w' ⟨rfl, hb'⟩
      have HB' := Lib.hid (below_t hB2.out hb')
      have HN : Hid (∀ z, z = y + (sizeT (kids k) : Int) → z = ((1 + sumTo (k + 1) (fun i => sizeT (kids i)) : Nat) : Int)) := by
        intro z hz
        have h1 := hY.out
        simp only [sumTo]
        omega
      clear c0 c1 c2 c3 c4 c5 hb'
      go_wp2_with fail
      all_goals
        go_roundw
        case rel => exact ⟨k + 1, _, w', rfl, by omega, by go_num, rfl, HN.out _ (rfl), HB'⟩
        case measure => simp [intOf]; omega
    · have hi1 : ¬ (k : Int) < (d.n : Int) := by omega
      have HR : Hid ((sizeT (.mk d kids) : Nat) = y) := by
        have h1 := hY.out
        have h2 : k = d.n := by omega
        subst h2
        rw [Hid, h1]; rfl
      skip
      skip
      go_wp2_with fail
      go_ret
      exact ⟨ret_int HR.out.symm, below_t HBA.out hB.out⟩
theorem RSize_any : ∀ (t : TV) (w : World), sizeT t ≤ 100000 → TreeIn w t → Calls Try.prog 13 #[.agg #[.int .i64 t.d.kind, .int .i64 t.d.fn, .int .i64 t.d.axis, .string t.d.name, .slice t.d.np t.d.nums.length t.d.nc, .slice t.d.kp t.d.n t.d.kc]] w fun e w' => e = .returned (.int .i64 ((sizeT t : Nat))) ∧ Below w.heap.size w w'
  | .nil, _, _, h => h.no
  | .mk d kids, w, hs, h => RSize_step d kids (fun i => RSize_any (kids i)) w hs h

set_option maxHeartbeats 1000000 in
theorem Depth_step (d : TD) (kids : Nat → TV) (ih : ∀ i w, sizeT (kids i) ≤ 100000 → TreeIn w (kids i) → Calls Try.prog 14 #[.agg #[.int .i64 (kids i).d.kind, .int .i64 (kids i).d.fn, .int .i64 (kids i).d.axis, .string (kids i).d.name, .slice (kids i).d.np (kids i).d.nums.length (kids i).d.nc, .slice (kids i).d.kp (kids i).d.n (kids i).d.kc]] w fun e w' => e = .returned (.int .i64 ((depthT (kids i) : Nat))) ∧ Below w.heap.size w w')
    (w : World) (hs : sizeT (.mk d kids) ≤ 100000) (h : TreeIn w (.mk d kids)) : Calls Try.prog 14 #[.agg #[.int .i64 d.kind, .int .i64 d.fn, .int .i64 d.axis, .string d.name, .slice d.np d.nums.length d.nc, .slice d.kp d.n d.kc]] w fun e w' => e = .returned (.int .i64 ((depthT (.mk d kids) : Nat))) ∧ Below w.heap.size w w' := by
  have hba := below_alloc w (.cells #[.int .i64 d.kind, .int .i64 d.fn, .int .i64 d.axis, .string d.name, .slice d.np d.nums.length d.nc, .slice d.kp d.n d.kc] 25)
  have A := At6.new w _ d 25 rfl
  have hn := h.small
  have hnn := h.nums.small
  have HT := Lib.hid (h.keep hba)
  have IH := Lib.hid ih
  have HS := Lib.hid hs
  clear h ih hs
  obtain ⟨W, hW⟩ : ∃ W, w.alloc (.cells #[.int .i64 d.kind, .int .i64 d.fn, .int .i64 d.axis, .string d.name, .slice d.np d.nums.length d.nc, .slice d.kp d.n d.kc] 25) = W := ⟨_, rfl⟩
  rw [hW] at A hba HT
  have HW := Lib.hid hW
  have hA4 := A.c4
  have hA5 := A.c5
  have hAlt := A.lt
  have HBA := Lib.hid hba
  clear hW A hba
  go_enter Try.func14, Try.ntmps14
  go_wp2_with fail
  rw [HW.out]
  clear HW
  go_wp2_with fail
  obtain ⟨q, hq⟩ : ∃ q, d.kp = q := ⟨_, rfl⟩
  have HQ := Lib.hid hq
  rw [hq] at hA5 ⊢
  clear hq
  go_loopw [3, 9] (fun x i wr => ∃ (k : Nat) (y : Int) (wz : World), wz = wr ∧ k ≤ d.n ∧ i = .int .i64 k ∧ x = .int .i64 y ∧ Hid (y = ((maxTo k (fun i => depthT (kids i)) : Nat) : Int)) ∧ Hid (Below W.heap.size W wz)) (fun _ i _ => d.n - (intOf i).toNat)
  case atStart => exact ⟨0, _, W, rfl, Nat.zero_le _, rfl, rfl, by simp [Hid, sumTo, maxTo, accW], Below.refl _ _⟩
  case round =>
    obtain ⟨k, y, wz, rfl, hk, rfl, rfl, hY, hB⟩ := hrel
    have hA5 := (hB.out.cell (p := ⟨w.heap.size, 5, none⟩) hAlt).trans hA5
    by_cases hlt : k < d.n
    · have hi1 : (k : Int) < (d.n : Int) := by omega
      obtain ⟨⟨g, o, e1, hg, N⟩, hT⟩ := (HT.out.keep hB.out).kid hlt
      have c0 := N.c0
      have c1 := N.c1
      have c2 := N.c2
      have c3 := N.c3
      have c4 := N.c4
      have c5 := N.c5
      obtain rfl : q = some ⟨g, o, none⟩ := HQ.out.symm.trans e1
      have HTk := Lib.hid (hT.keep (below_alloc wz (.cells #[.int .i64 (kids k).d.kind, .int .i64 (kids k).d.fn, .int .i64 (kids k).d.axis, .string (kids k).d.name, .slice (kids k).d.np (kids k).d.nums.length (kids k).d.nc, .slice (kids k).d.kp (kids k).d.n (kids k).d.kc] 25)))
      have hB2 := Lib.hid (below_t hB.out (below_alloc wz (.cells #[.int .i64 (kids k).d.kind, .int .i64 (kids k).d.fn, .int .i64 (kids k).d.axis, .string (kids k).d.name, .slice (kids k).d.np (kids k).d.nums.length (kids k).d.nc, .slice (kids k).d.kp (kids k).d.n (kids k).d.kc] 25)))
      have hsk : Hid (sizeT (kids k) ≤ 100000) := by
        have h1 := HS.out
        have h2 := sumTo_at (f := fun i => sizeT (kids i)) hlt
        simp only [sizeT] at h1
        rw [Hid]; omega

      clear N hT e1
      go_wp2_with fail
      refine (IH.out k _ hsk.out HTk.out).mono ?_
      rintro e w' ⟨rfl, hb'⟩
      have HB' := Lib.hid (below_t hB2.out hb')
      have HN : Hid (∀ z, z = max y (depthT (kids k) : Int) → z = ((maxTo (k + 1) (fun i => depthT (kids i)) : Nat) : Int)) := by
        intro z hz
        have h1 := hY.out
        simp only [maxTo]
        omega
      clear c0 c1 c2 c3 c4 c5 hb'
      go_wp2_with fail
      all_goals
        go_roundw
        case rel => exact ⟨k + 1, _, w', rfl, by omega, by go_num, rfl, HN.out _ (by omega), HB'⟩
        case measure => simp [intOf]; omega
    · have hi1 : ¬ (k : Int) < (d.n : Int) := by omega
      have HR : Hid ((depthT (.mk d kids) : Nat) = y + 1) := by
        have h1 := hY.out
        have h2 : k = d.n := by omega
        subst h2
        rw [Hid, h1]; simp only [depthT]; omega
      have hw1 : wrap64 (y + 1) = y + 1 := wrap64_id (by have := hY.out; omega) (by have := hY.out; have := max_le_sum (f := fun i => depthT (kids i)) (g := fun i => sizeT (kids i)) (fun i => depth_le (kids i)) k; have := sumTo_le (f := fun i => sizeT (kids i)) hk; have := HS.out; simp only [sizeT] at this; omega)
      have hw2 : IntKind.i64.wrap (y + 1) = y + 1 := wrapK_id (by have := hY.out; omega) (by have := hY.out; have := max_le_sum (f := fun i => depthT (kids i)) (g := fun i => sizeT (kids i)) (fun i => depth_le (kids i)) k; have := sumTo_le (f := fun i => sizeT (kids i)) hk; have := HS.out; simp only [sizeT] at this; omega)
      go_wp2_with fail
      go_ret
      exact ⟨ret_int HR.out.symm, below_t HBA.out hB.out⟩
theorem Depth_any : ∀ (t : TV) (w : World), sizeT t ≤ 100000 → TreeIn w t → Calls Try.prog 14 #[.agg #[.int .i64 t.d.kind, .int .i64 t.d.fn, .int .i64 t.d.axis, .string t.d.name, .slice t.d.np t.d.nums.length t.d.nc, .slice t.d.kp t.d.n t.d.kc]] w fun e w' => e = .returned (.int .i64 ((depthT t : Nat))) ∧ Below w.heap.size w w'
  | .nil, _, _, h => h.no
  | .mk d kids, w, hs, h => Depth_step d kids (fun i => Depth_any (kids i)) w hs h

set_option maxHeartbeats 1000000 in
theorem RDepth_step (d : TD) (kids : Nat → TV) (ih : ∀ i w, sizeT (kids i) ≤ 100000 → TreeIn w (kids i) → Calls Try.prog 15 #[.agg #[.int .i64 (kids i).d.kind, .int .i64 (kids i).d.fn, .int .i64 (kids i).d.axis, .string (kids i).d.name, .slice (kids i).d.np (kids i).d.nums.length (kids i).d.nc, .slice (kids i).d.kp (kids i).d.n (kids i).d.kc]] w fun e w' => e = .returned (.int .i64 ((depthT (kids i) : Nat))) ∧ Below w.heap.size w w')
    (w : World) (hs : sizeT (.mk d kids) ≤ 100000) (h : TreeIn w (.mk d kids)) : Calls Try.prog 15 #[.agg #[.int .i64 d.kind, .int .i64 d.fn, .int .i64 d.axis, .string d.name, .slice d.np d.nums.length d.nc, .slice d.kp d.n d.kc]] w fun e w' => e = .returned (.int .i64 ((depthT (.mk d kids) : Nat))) ∧ Below w.heap.size w w' := by
  have hba := below_alloc w (.cells #[.int .i64 d.kind, .int .i64 d.fn, .int .i64 d.axis, .string d.name, .slice d.np d.nums.length d.nc, .slice d.kp d.n d.kc] 25)
  have A := At6.new w _ d 25 rfl
  have hn := h.small
  have hnn := h.nums.small
  have HT := Lib.hid (h.keep hba)
  have IH := Lib.hid ih
  have HS := Lib.hid hs
  clear h ih hs
  obtain ⟨W, hW⟩ : ∃ W, w.alloc (.cells #[.int .i64 d.kind, .int .i64 d.fn, .int .i64 d.axis, .string d.name, .slice d.np d.nums.length d.nc, .slice d.kp d.n d.kc] 25) = W := ⟨_, rfl⟩
  rw [hW] at A hba HT
  have HW := Lib.hid hW
  have hA4 := A.c4
  have hA5 := A.c5
  have hAlt := A.lt
  have HBA := Lib.hid hba
  clear hW A hba
  go_enter Try.func15, Try.ntmps15
  go_wp2_with fail
  rw [HW.out]
  clear HW
  go_wp2_with fail
  obtain ⟨q, hq⟩ : ∃ q, d.kp = q := ⟨_, rfl⟩
  have HQ := Lib.hid hq
  rw [hq] at hA5 ⊢
  clear hq
  go_loopw [3, 4] (fun x i wr => ∃ (k : Nat) (y : Int) (wz : World), wz = wr ∧ k ≤ d.n ∧ i = .int .i64 k ∧ x = .int .i64 y ∧ Hid (y = ((maxTo k (fun i => depthT (kids i)) : Nat) : Int)) ∧ Hid (Below W.heap.size W wz)) (fun _ i _ => d.n - (intOf i).toNat)
  case atStart => exact ⟨0, _, W, rfl, Nat.zero_le _, rfl, rfl, by simp [Hid, sumTo, maxTo, accW], Below.refl _ _⟩
  case round =>
    obtain ⟨k, y, wz, rfl, hk, rfl, rfl, hY, hB⟩ := hrel
    have hA5 := (hB.out.cell (p := ⟨w.heap.size, 5, none⟩) hAlt).trans hA5
    by_cases hlt : k < d.n
    · have hi1 : (k : Int) < (d.n : Int) := by omega
      obtain ⟨⟨g, o, e1, hg, N⟩, hT⟩ := (HT.out.keep hB.out).kid hlt
      have c0 := N.c0
      have c1 := N.c1
      have c2 := N.c2
      have c3 := N.c3
      have c4 := N.c4
      have c5 := N.c5
      obtain rfl : q = some ⟨g, o, none⟩ := HQ.out.symm.trans e1
      have HTk := Lib.hid hT
      have hB2 := Lib.hid hB.out
      have hsk : Hid (sizeT (kids k) ≤ 100000) := by
        have h1 := HS.out
        have h2 := sumTo_at (f := fun i => sizeT (kids i)) hlt
        simp only [sizeT] at h1
        rw [Hid]; omega

      clear N hT e1
      go_wp2_with fail
      refine (IH.out k _ hsk.out HTk.out).mono ?_
      rintro e w' ⟨rfl, hb'⟩
      have HB' := Lib.hid (below_t hB2.out hb')
      have HN : Hid (∀ z, z = max y (depthT (kids k) : Int) → z = ((maxTo (k + 1) (fun i => depthT (kids i)) : Nat) : Int)) := by
        intro z hz
        have h1 := hY.out
        simp only [maxTo]
        omega
      clear c0 c1 c2 c3 c4 c5 hb'
      go_wp2_with fail
      all_goals
        go_roundw
        case rel => exact ⟨k + 1, _, w', rfl, by omega, by go_num, rfl, HN.out _ (by omega), HB'⟩
        case measure => simp [intOf]; omega
    · have hi1 : ¬ (k : Int) < (d.n : Int) := by omega
      have HR : Hid ((depthT (.mk d kids) : Nat) = y + 1) := by
        have h1 := hY.out
        have h2 : k = d.n := by omega
        subst h2
        rw [Hid, h1]; simp only [depthT]; omega
      have hw1 : wrap64 (y + 1) = y + 1 := wrap64_id (by have := hY.out; omega) (by have := hY.out; have := max_le_sum (f := fun i => depthT (kids i)) (g := fun i => sizeT (kids i)) (fun i => depth_le (kids i)) k; have := sumTo_le (f := fun i => sizeT (kids i)) hk; have := HS.out; simp only [sizeT] at this; omega)
      have hw2 : IntKind.i64.wrap (y + 1) = y + 1 := wrapK_id (by have := hY.out; omega) (by have := hY.out; have := max_le_sum (f := fun i => depthT (kids i)) (g := fun i => sizeT (kids i)) (fun i => depth_le (kids i)) k; have := sumTo_le (f := fun i => sizeT (kids i)) hk; have := HS.out; simp only [sizeT] at this; omega)
      go_wp2_with fail
      go_ret
      exact ⟨ret_int HR.out.symm, below_t HBA.out hB.out⟩
theorem RDepth_any : ∀ (t : TV) (w : World), sizeT t ≤ 100000 → TreeIn w t → Calls Try.prog 15 #[.agg #[.int .i64 t.d.kind, .int .i64 t.d.fn, .int .i64 t.d.axis, .string t.d.name, .slice t.d.np t.d.nums.length t.d.nc, .slice t.d.kp t.d.n t.d.kc]] w fun e w' => e = .returned (.int .i64 ((depthT t : Nat))) ∧ Below w.heap.size w w'
  | .nil, _, _, h => h.no
  | .mk d kids, w, hs, h => RDepth_step d kids (fun i => RDepth_any (kids i)) w hs h

set_option maxHeartbeats 1000000 in
theorem Numbers_step (d : TD) (kids : Nat → TV) (ih : ∀ i w, TreeIn w (kids i) → Calls Try.prog 28 #[.agg #[.int .i64 (kids i).d.kind, .int .i64 (kids i).d.fn, .int .i64 (kids i).d.axis, .string (kids i).d.name, .slice (kids i).d.np (kids i).d.nums.length (kids i).d.nc, .slice (kids i).d.kp (kids i).d.n (kids i).d.kc]] w fun e w' => e = .returned (.int .i64 (numsW (kids i))) ∧ Below w.heap.size w w')
    (w : World) (h : TreeIn w (.mk d kids)) : Calls Try.prog 28 #[.agg #[.int .i64 d.kind, .int .i64 d.fn, .int .i64 d.axis, .string d.name, .slice d.np d.nums.length d.nc, .slice d.kp d.n d.kc]] w fun e w' => e = .returned (.int .i64 (numsW (.mk d kids))) ∧ Below w.heap.size w w' := by
  have hba := below_alloc w (.cells #[.int .i64 d.kind, .int .i64 d.fn, .int .i64 d.axis, .string d.name, .slice d.np d.nums.length d.nc, .slice d.kp d.n d.kc] 25)
  have A := At6.new w _ d 25 rfl
  have hn := h.small
  have hnn := h.nums.small
  have HT := Lib.hid (h.keep hba)
  have IH := Lib.hid ih

  clear h ih
  obtain ⟨W, hW⟩ : ∃ W, w.alloc (.cells #[.int .i64 d.kind, .int .i64 d.fn, .int .i64 d.axis, .string d.name, .slice d.np d.nums.length d.nc, .slice d.kp d.n d.kc] 25) = W := ⟨_, rfl⟩
  rw [hW] at A hba HT
  have HW := Lib.hid hW
  have hA4 := A.c4
  have hA5 := A.c5
  have hAlt := A.lt
  have HBA := Lib.hid hba
  clear hW A hba
  go_enter Try.func28, Try.ntmps28
  go_wp2_with fail
  rw [HW.out]
  clear HW
  go_wp2_with fail
  obtain ⟨q, hq⟩ : ∃ q, d.kp = q := ⟨_, rfl⟩
  have HQ := Lib.hid hq
  rw [hq] at hA5 ⊢
  clear hq
  go_loopw [3, 4] (fun x i wr => ∃ (k : Nat) (y : Int) (wz : World), wz = wr ∧ k ≤ d.n ∧ i = .int .i64 k ∧ x = .int .i64 y ∧ Hid (y = accW k (fun i => numsW (kids i)) (d.nums.length : Int)) ∧ Hid (Below W.heap.size W wz)) (fun _ i _ => d.n - (intOf i).toNat)
  case atStart => exact ⟨0, _, W, rfl, Nat.zero_le _, rfl, rfl, by simp [Hid, sumTo, maxTo, accW], Below.refl _ _⟩
  case round =>
    obtain ⟨k, y, wz, rfl, hk, rfl, rfl, hY, hB⟩ := hrel
    have hA5 := (hB.out.cell (p := ⟨w.heap.size, 5, none⟩) hAlt).trans hA5
    by_cases hlt : k < d.n
    · have hi1 : (k : Int) < (d.n : Int) := by omega
      obtain ⟨⟨g, o, e1, hg, N⟩, hT⟩ := (HT.out.keep hB.out).kid hlt
      have c0 := N.c0
      have c1 := N.c1
      have c2 := N.c2
      have c3 := N.c3
      have c4 := N.c4
      have c5 := N.c5
      obtain rfl : q = some ⟨g, o, none⟩ := HQ.out.symm.trans e1
      have HTk := Lib.hid hT
      have hB2 := Lib.hid hB.out

      clear N hT e1
      go_wp2_with fail
      refine (IH.out k _ HTk.out).mono ?_
      rintro e w' ⟨rfl, hb'⟩
      have HB' := Lib.hid (below_t hB2.out hb')
      have HN : Hid (∀ z, z = wrap64 (y + numsW (kids k)) → z = accW (k + 1) (fun i => numsW (kids i)) (d.nums.length : Int)) := by
        intro z hz
        have h1 := hY.out
        rw [hz, h1]
        rfl
      clear c0 c1 c2 c3 c4 c5 hb'
      go_wp2_with fail
      all_goals
        go_roundw
        case rel => exact ⟨k + 1, _, w', rfl, by omega, by go_num, rfl, HN.out _ (rfl), HB'⟩
        case measure => simp [intOf]; omega
    · have hi1 : ¬ (k : Int) < (d.n : Int) := by omega
      have HR : Hid (numsW (.mk d kids) = y) := by
        have h1 := hY.out
        have h2 : k = d.n := by omega
        subst h2
        rw [Hid, h1]; rfl
      skip
      skip
      go_wp2_with fail
      go_ret
      exact ⟨ret_int HR.out.symm, below_t HBA.out hB.out⟩
theorem Numbers_any : ∀ (t : TV) (w : World), TreeIn w t → Calls Try.prog 28 #[.agg #[.int .i64 t.d.kind, .int .i64 t.d.fn, .int .i64 t.d.axis, .string t.d.name, .slice t.d.np t.d.nums.length t.d.nc, .slice t.d.kp t.d.n t.d.kc]] w fun e w' => e = .returned (.int .i64 (numsW t)) ∧ Below w.heap.size w w'
  | .nil, _, h => h.no
  | .mk d kids, w, h => Numbers_step d kids (fun i => Numbers_any (kids i)) w h

end Go.Proofs.Ytjehgcmcphgofaa
