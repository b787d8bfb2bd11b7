/- TreeRight, walked. No condition. -/
import Derived.Test.YtjehgcmcphgofaaTr34
namespace Go.Proofs.Ytjehgcmcphgofaa
open Go.RowKit Go.Shelf
set_option linter.unusedVariables false
set_option linter.unusedSimpArgs false

set_option maxHeartbeats 2000000 in
theorem TreeRight_law (x : TV) (w : World) (h : TreeIn w x) (hN : NamesIn x) (hM : NumsIn x) :
    Calls Try.prog 3 #[.agg #[.int .i64 x.d.kind, .int .i64 x.d.fn, .int .i64 x.d.axis, .string x.d.name, .slice x.d.np x.d.nums.length x.d.nc, .slice x.d.kp x.d.n x.d.kc]] w fun e w' => e = .returned (.bool true) ∧ Below w.heap.size w w' := by
  have hba := below_alloc w (.cells #[.int .i64 x.d.kind, .int .i64 x.d.fn, .int .i64 x.d.axis, .string x.d.name, .slice x.d.np x.d.nums.length x.d.nc, .slice x.d.kp x.d.n x.d.kc] 25)
  have A := At6.new w _ x.d 25 rfl
  obtain ⟨W, hW⟩ : ∃ W, w.alloc (.cells #[.int .i64 x.d.kind, .int .i64 x.d.fn, .int .i64 x.d.axis, .string x.d.name, .slice x.d.np x.d.nums.length x.d.nc, .slice x.d.kp x.d.n x.d.kc] 25) = W := ⟨_, rfl⟩
  rw [hW] at A hba
  obtain ⟨f, hf⟩ : ∃ f, fewT x 2000 = f := ⟨_, rfl⟩
  have HF := Lib.hid hf
  have HN := Lib.hid hN
  have HT := Lib.hid (h.keep hba)
  have HA := Lib.hid A
  have HB := Lib.hid hba
  have HW := Lib.hid hW
  clear hW hba A hf hN h
  go_enter Try.func3, Try.ntmps3
  go_wp2_with fail
  rw [HW.out]
  clear HW
  refine (awake08 W).mono ?_
  rintro e1 w1 ⟨rfl, hb1⟩
  have A1 := HA.out.keep hb1
  have hA10 := A1.c0
  have hA11 := A1.c1
  have hA12 := A1.c2
  have hA13 := A1.c3
  have hA14 := A1.c4
  have hA15 := A1.c5
  have HT1 := Lib.hid (HT.out.keep hb1)
  have HB1 := Lib.hid (below_t HB.out hb1)
  have HA1 := Lib.hid A1
  clear A1 hb1
  go_wp2_with fail
  refine (Few_any x 2000 w1 (by omega) (by omega) HT1.out f HF.out).mono ?_
  rintro e2 w2 ⟨rfl, hb2⟩
  clear hA10
  clear hA11
  clear hA12
  clear hA13
  clear hA14
  clear hA15
  have A2 := HA1.out.keep hb2
  have HT2 := Lib.hid (HT1.out.keep hb2)
  have HB2 := Lib.hid (below_t HB1.out hb2)
  clear hb2
  cases f with
  | false =>
    clear A2
    go_wp2_with fail
    refine (awake08 w2).mono ?_
    rintro e3 w3 ⟨rfl, hb3⟩
    have HB3 := Lib.hid (below_t HB2.out hb3)
    clear hb3
    go_wp2_with fail
    go_ret
    exact ⟨rfl, HB3.out⟩
  | true =>
    have HS : Hid (sizeT x ≤ 100000) := by
      have := HF.out
      unfold fewT at this
      simp only [Bool.and_eq_true, decide_eq_true_eq] at this
      have := left_size this.1
      simp only [Hid]
      omega
    obtain ⟨b, hb⟩ : ∃ b, rightT x = b := ⟨_, rfl⟩
    have HR := Lib.hid hb
    have hlt := A2.lt
    have c0 := A2.c0
    have c1 := A2.c1
    have c2 := A2.c2
    have c3 := A2.c3
    have c4 := A2.c4
    have c5 := A2.c5
    have hpre := fun (z : World) (hz : Below w2.heap.size w2 z) (i : Nat) => hz.cell (p := ⟨w.heap.size, i, none⟩) hlt
    clear A2 hb
    go_wp2_with fail
    refine wp_region_noPanic ?_
    refine wp_region_held_drew (S := (fun z => Below w2.heap.size w2 z)) (by kernel_rfl) ?_ (fun hHeld => ?_)
    · (try dsimp only); exact (Below.refl _ w2).drew
    refine takeH 0 (some 11) (v := ?_) rfl rfl (by kernel_rfl) (by kernel_rfl) (by kernel_rfl) (by rfl) ?_ (by exact hHeld) ?_
    rotate_left
    · intro w hSw; (try dsimp only at hSw); have e1 := hpre _ hSw; go_simp; try (with_reducible rfl)
    try simp only [Act.put, List.setIfInBounds_toArray, List.set_cons_zero, List.set_cons_succ]
    refine takeH 2 (some 13) (v := ?_) rfl rfl (by kernel_rfl) (by kernel_rfl) (by kernel_rfl) (by rfl) ?_ (by exact hHeld) ?_
    rotate_left
    · intro w hSw; (try dsimp only at hSw); have e1 := hpre _ hSw; go_simp; try (with_reducible rfl)
    try simp only [Act.put, List.setIfInBounds_toArray, List.set_cons_zero, List.set_cons_succ]
    refine wpAnyH_ready (rs := [1]) (by kernel_rfl) (by simp) ?_
    refine stepH 1 rfl (by rfl) (fun K hK => ?_) ?_
    · go_simp
      ((with_reducible refine (Right_any x _ ?_ b HR.out).mono ?_); (exact HT2.out.keep hHeld); rintro e7 w7 ⟨rfl, hb7⟩)
      refine hK.out _ _ ?_ (fun hNew => ?_)
      · (try dsimp only); first | exact below_t hHeld hb7 | exact below_t hHeld hb8
      clear hK K hHeld
      have hHeld := hNew
      clear hNew
      try dsimp only at hHeld
      try simp only [Act.put, List.setIfInBounds_toArray, List.set_cons_zero, List.set_cons_succ]
      refine wpAnyH_ready (rs := [3]) (by kernel_rfl) (by simp) ?_
      refine stepH 3 rfl (by rfl) (fun K hK => ?_) ?_
      · go_simp
        ((with_reducible refine (RRight_any x _ HS.out HN.out ?_ b HR.out).mono ?_); (exact HT2.out.keep hHeld); rintro e8 w8 ⟨rfl, hb8⟩)
        refine hK.out _ _ ?_ (fun hNew => ?_)
        · (try dsimp only); first | exact below_t hHeld hb7 | exact below_t hHeld hb8
        clear hK K hHeld
        have hHeld := hNew
        clear hNew
        try dsimp only at hHeld
        try simp only [Act.put, List.setIfInBounds_toArray, List.set_cons_zero, List.set_cons_succ]
        refine takeH 4 (some 15) (v := ?_) rfl rfl (by kernel_rfl) (by kernel_rfl) (by kernel_rfl) (by rfl) ?_ (by exact hHeld) ?_
        rotate_left
        · intro w hSw; (try dsimp only at hSw); have e1 := hpre _ hSw; go_simp; try (with_reducible rfl)
        try simp only [Act.put, List.setIfInBounds_toArray, List.set_cons_zero, List.set_cons_succ]
        refine takeH 5 (some 2) (v := ?_) rfl rfl (by kernel_rfl) (by kernel_rfl) (by kernel_rfl) (by rfl) ?_ (by exact hHeld) ?_
        rotate_left
        · intro w hSw; (try dsimp only at hSw); have e1 := hpre _ hSw; go_simp; try (with_reducible rfl)
        try simp only [Act.put, List.setIfInBounds_toArray, List.set_cons_zero, List.set_cons_succ]
        refine wpAnyH_done (by kernel_rfl) ?_ _
        refine NoPanic.normal ?_
        have HBf := Lib.hid (below_t HB2.out hHeld)
        clear hHeld hb7 hb8 hpre c0 c1 c2 c3 c4 c5
        go_wp2_with fail
        go_ret
        exact ⟨by simp, HBf.out⟩
      exact AllReadyH.nil
    exact AllReadyH.nil
end Go.Proofs.Ytjehgcmcphgofaa
