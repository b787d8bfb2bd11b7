/- TreeMeasures, walked. No condition. -/
import Derived.Test.YtjehgcmcphgofaaTr34
namespace Go.Proofs.Ytjehgcmcphgofaa
open Go.RowKit Go.Shelf
set_option linter.unusedVariables false
set_option linter.unusedSimpArgs false

set_option maxHeartbeats 4000000 in
theorem TreeMeasures_law (x : TV) (y : TV) (w : World) (h : TreeIn w x) (hN : NamesIn x) (hM : NumsIn x) (h' : TreeIn w y) (hN' : NamesIn y) (hM' : NumsIn y) :
    Calls Try.prog 4 #[.agg #[.int .i64 x.d.kind, .int .i64 x.d.fn, .int .i64 x.d.axis, .string x.d.name, .slice x.d.np x.d.nums.length x.d.nc, .slice x.d.kp x.d.n x.d.kc], .agg #[.int .i64 y.d.kind, .int .i64 y.d.fn, .int .i64 y.d.axis, .string y.d.name, .slice y.d.np y.d.nums.length y.d.nc, .slice y.d.kp y.d.n y.d.kc]] w fun e w' => e = .returned (.bool true) ∧ Below w.heap.size w w' := by
  obtain ⟨W, hW, hb, A, B⟩ := two_nodes w x.d y.d
  obtain ⟨f, hf⟩ : ∃ f, fewT x 1000 = f := ⟨_, rfl⟩
  obtain ⟨g, hg⟩ : ∃ g, fewT y 1000 = g := ⟨_, rfl⟩
  have HF := Lib.hid hf
  have HG := Lib.hid hg
  have HT := Lib.hid (h.keep hb)
  have HU := Lib.hid (h'.keep hb)
  have HA := Lib.hid A
  have HBB := Lib.hid B
  have HB := Lib.hid hb
  have HW := Lib.hid hW
  clear hW hb A B hf hg hN hN' hM hM' h h'
  go_enter Try.func4, Try.ntmps4
  go_wp2_with fail
  rw [HW.out]
  clear HW
  refine (awake08 W).mono ?_
  rintro e1 w1 ⟨rfl, hb1⟩
  have HA := Lib.hid (HA.out.keep hb1)
  have HBB := Lib.hid (HBB.out.keep hb1)
  have HT := Lib.hid (HT.out.keep hb1)
  have HU := Lib.hid (HU.out.keep hb1)
  have HB := Lib.hid (below_t HB.out hb1)
  have A := HA.out
  have hA0 := A.c0
  have hA1 := A.c1
  have hA2 := A.c2
  have hA3 := A.c3
  have hA4 := A.c4
  have hA5 := A.c5
  clear hb1 A
  go_wp2_with fail
  refine (Few_any x 1000 w1 (by omega) (by omega) HT.out f HF.out).mono ?_
  rintro e2 w2 ⟨rfl, hb2⟩
  clear hA0
  clear hA1
  clear hA2
  clear hA3
  clear hA4
  clear hA5
  have HA := Lib.hid (HA.out.keep hb2)
  have HBB := Lib.hid (HBB.out.keep hb2)
  have HT := Lib.hid (HT.out.keep hb2)
  have HU := Lib.hid (HU.out.keep hb2)
  have HB := Lib.hid (below_t HB.out hb2)
  clear hb2
  cases f with
  | false =>
    go_wp2_with fail
    refine (awake08 w2).mono ?_
    rintro e3 w3 ⟨rfl, hb3⟩
    have HB3 := Lib.hid (below_t HB.out hb3)
    clear hb3
    go_wp2_with fail
    go_ret
    exact ⟨rfl, HB3.out⟩
  | true =>
    have B := HBB.out
    have hB0 := B.c0
    have hB1 := B.c1
    have hB2 := B.c2
    have hB3 := B.c3
    have hB4 := B.c4
    have hB5 := B.c5
    clear B
    go_wp2_with fail
    refine (Few_any y 1000 w2 (by omega) (by omega) HU.out g HG.out).mono ?_
    rintro e3 w3 ⟨rfl, hb3⟩
    clear hB0
    clear hB1
    clear hB2
    clear hB3
    clear hB4
    clear hB5
    have HA := Lib.hid (HA.out.keep hb3)
    have HBB := Lib.hid (HBB.out.keep hb3)
    have HT := Lib.hid (HT.out.keep hb3)
    have HU := Lib.hid (HU.out.keep hb3)
    have HB := Lib.hid (below_t HB.out hb3)
    clear hb3
    cases g with
    | false =>
      go_wp2_with fail
      refine (awake08 w3).mono ?_
      rintro e4 w4 ⟨rfl, hb4⟩
      have HB3 := Lib.hid (below_t HB.out hb4)
      clear hb4
      go_wp2_with fail
      go_ret
      exact ⟨rfl, HB3.out⟩
    | true =>
      have HSx : Hid (sizeT x ≤ 100000) := by have := few_size HF.out; simp only [Hid]; omega
      obtain ⟨b, hb⟩ : ∃ b, sameT x y = b := ⟨_, rfl⟩
      have HSM := Lib.hid hb
      have A := HA.out
      have B := HBB.out
      have hlt := A.lt
      have hlt' := B.lt
      have hA0 := A.c0
      have hA1 := A.c1
      have hA2 := A.c2
      have hA3 := A.c3
      have hA4 := A.c4
      have hA5 := A.c5
      have hB0 := B.c0
      have hB1 := B.c1
      have hB2 := B.c2
      have hB3 := B.c3
      have hB4 := B.c4
      have hB5 := B.c5
      have hpre := fun (z : World) (hz : Below w3.heap.size w3 z) => And.intro (fun i => hz.cell (p := ⟨w.heap.size, i, none⟩) hlt) (fun i => hz.cell (p := ⟨w.heap.size + 1, i, none⟩) hlt')
      clear A B hb
      go_wp2_with fail
      refine wp_region_noPanic ?_
      refine wp_region_held_drew (S := (fun z => Below w3.heap.size w3 z)) (by kernel_rfl) ?_ (fun hHeld => ?_)
      · (try dsimp only); exact (Below.refl _ w3).drew
      refine takeH 0 (some 18) (v := ?_) rfl rfl (by kernel_rfl) (by kernel_rfl) (by kernel_rfl) (by rfl) ?_ (by exact hHeld) ?_
      rotate_left
      · intro w hSw; (try dsimp only at hSw); obtain ⟨e1, e2⟩ := hpre _ hSw; go_simp; try (with_reducible rfl)
      try simp only [Act.put, List.setIfInBounds_toArray, List.set_cons_zero, List.set_cons_succ]
      refine takeH 2 (some 20) (v := ?_) rfl rfl (by kernel_rfl) (by kernel_rfl) (by kernel_rfl) (by rfl) ?_ (by exact hHeld) ?_
      rotate_left
      · intro w hSw; (try dsimp only at hSw); obtain ⟨e1, e2⟩ := hpre _ hSw; go_simp; try (with_reducible rfl)
      try simp only [Act.put, List.setIfInBounds_toArray, List.set_cons_zero, List.set_cons_succ]
      refine wpAnyH_ready (rs := [1]) (by kernel_rfl) (by simp) ?_
      refine stepH 1 rfl (by rfl) (fun K hK => ?_) ?_
      · go_simp
        ((with_reducible refine (Size_any x _ HSx.out ?_).mono ?_); (exact HT.out.keep hHeld); rintro e w1 ⟨rfl, q1⟩)
        refine hK.out _ _ ?_ (fun hNew => ?_)
        · (try dsimp only); first | exact below_t hHeld q1 | exact below_t hHeld q3 | exact below_t hHeld q7 | exact below_t hHeld q9 | exact below_t hHeld q15 | exact below_t hHeld q18 | exact below_t hHeld q24
        clear hK K hHeld
        have hHeld := hNew
        clear hNew
        try dsimp only at hHeld
        try simp only [Act.put, List.setIfInBounds_toArray, List.set_cons_zero, List.set_cons_succ]
        refine wpAnyH_ready (rs := [3]) (by kernel_rfl) (by simp) ?_
        refine stepH 3 rfl (by rfl) (fun K hK => ?_) ?_
        · go_simp
          ((with_reducible refine (RSize_any x _ HSx.out ?_).mono ?_); (exact HT.out.keep hHeld); rintro e w3 ⟨rfl, q3⟩)
          refine hK.out _ _ ?_ (fun hNew => ?_)
          · (try dsimp only); first | exact below_t hHeld q1 | exact below_t hHeld q3 | exact below_t hHeld q7 | exact below_t hHeld q9 | exact below_t hHeld q15 | exact below_t hHeld q18 | exact below_t hHeld q24
          clear hK K hHeld
          have hHeld := hNew
          clear hNew
          try dsimp only at hHeld
          try simp only [Act.put, List.setIfInBounds_toArray, List.set_cons_zero, List.set_cons_succ]
          refine takeH 4 (some 22) (v := ?_) rfl rfl (by kernel_rfl) (by kernel_rfl) (by kernel_rfl) (by rfl) ?_ (by exact hHeld) ?_
          rotate_left
          · intro w hSw; (try dsimp only at hSw); obtain ⟨e1, e2⟩ := hpre _ hSw; go_simp; try (with_reducible rfl)
          try simp only [Act.put, List.setIfInBounds_toArray, List.set_cons_zero, List.set_cons_succ]
          refine takeH 5 (some 23) (v := ?_) rfl rfl (by kernel_rfl) (by kernel_rfl) (by kernel_rfl) (by rfl) ?_ (by exact hHeld) ?_
          rotate_left
          · intro w hSw; (try dsimp only at hSw); obtain ⟨e1, e2⟩ := hpre _ hSw; go_simp; try (with_reducible rfl)
          try simp only [Act.put, List.setIfInBounds_toArray, List.set_cons_zero, List.set_cons_succ]
          refine takeH 6 (some 24) (v := ?_) rfl rfl (by kernel_rfl) (by kernel_rfl) (by kernel_rfl) (by rfl) ?_ (by exact hHeld) ?_
          rotate_left
          · intro w hSw; (try dsimp only at hSw); obtain ⟨e1, e2⟩ := hpre _ hSw; go_simp; try (with_reducible rfl)
          try simp only [Act.put, List.setIfInBounds_toArray, List.set_cons_zero, List.set_cons_succ]
          refine takeH 8 (some 26) (v := ?_) rfl rfl (by kernel_rfl) (by kernel_rfl) (by kernel_rfl) (by rfl) ?_ (by exact hHeld) ?_
          rotate_left
          · intro w hSw; (try dsimp only at hSw); obtain ⟨e1, e2⟩ := hpre _ hSw; go_simp; try (with_reducible rfl)
          try simp only [Act.put, List.setIfInBounds_toArray, List.set_cons_zero, List.set_cons_succ]
          refine wpAnyH_ready (rs := [7]) (by kernel_rfl) (by simp) ?_
          refine stepH 7 rfl (by rfl) (fun K hK => ?_) ?_
          · go_simp
            ((with_reducible refine (Depth_any x _ HSx.out ?_).mono ?_); (exact HT.out.keep hHeld); rintro e w7 ⟨rfl, q7⟩)
            refine hK.out _ _ ?_ (fun hNew => ?_)
            · (try dsimp only); first | exact below_t hHeld q1 | exact below_t hHeld q3 | exact below_t hHeld q7 | exact below_t hHeld q9 | exact below_t hHeld q15 | exact below_t hHeld q18 | exact below_t hHeld q24
            clear hK K hHeld
            have hHeld := hNew
            clear hNew
            try dsimp only at hHeld
            try simp only [Act.put, List.setIfInBounds_toArray, List.set_cons_zero, List.set_cons_succ]
            refine wpAnyH_ready (rs := [9]) (by kernel_rfl) (by simp) ?_
            refine stepH 9 rfl (by rfl) (fun K hK => ?_) ?_
            · go_simp
              ((with_reducible refine (RDepth_any x _ HSx.out ?_).mono ?_); (exact HT.out.keep hHeld); rintro e w9 ⟨rfl, q9⟩)
              refine hK.out _ _ ?_ (fun hNew => ?_)
              · (try dsimp only); first | exact below_t hHeld q1 | exact below_t hHeld q3 | exact below_t hHeld q7 | exact below_t hHeld q9 | exact below_t hHeld q15 | exact below_t hHeld q18 | exact below_t hHeld q24
              clear hK K hHeld
              have hHeld := hNew
              clear hNew
              try dsimp only at hHeld
              try simp only [Act.put, List.setIfInBounds_toArray, List.set_cons_zero, List.set_cons_succ]
              refine takeH 10 (some 28) (v := ?_) rfl rfl (by kernel_rfl) (by kernel_rfl) (by kernel_rfl) (by rfl) ?_ (by exact hHeld) ?_
              rotate_left
              · intro w hSw; (try dsimp only at hSw); obtain ⟨e1, e2⟩ := hpre _ hSw; go_simp; try (with_reducible rfl)
              try simp only [Act.put, List.setIfInBounds_toArray, List.set_cons_zero, List.set_cons_succ]
              refine takeH 11 (some 29) (v := ?_) rfl rfl (by kernel_rfl) (by kernel_rfl) (by kernel_rfl) (by rfl) ?_ (by exact hHeld) ?_
              rotate_left
              · intro w hSw; (try dsimp only at hSw); obtain ⟨e1, e2⟩ := hpre _ hSw; go_simp; try (with_reducible rfl)
              try simp only [Act.put, List.setIfInBounds_toArray, List.set_cons_zero, List.set_cons_succ]
              refine takeH 12 (some 30) (v := ?_) rfl rfl (by kernel_rfl) (by kernel_rfl) (by kernel_rfl) (by rfl) ?_ (by exact hHeld) ?_
              rotate_left
              · intro w hSw; (try dsimp only at hSw); obtain ⟨e1, e2⟩ := hpre _ hSw; go_simp; try (with_reducible rfl)
              try simp only [Act.put, List.setIfInBounds_toArray, List.set_cons_zero, List.set_cons_succ]
              refine takeH 13 (some 31) (v := ?_) rfl rfl (by kernel_rfl) (by kernel_rfl) (by kernel_rfl) (by rfl) ?_ (by exact hHeld) ?_
              rotate_left
              · intro w hSw; (try dsimp only at hSw); obtain ⟨e1, e2⟩ := hpre _ hSw; go_simp; try (with_reducible rfl)
              try simp only [Act.put, List.setIfInBounds_toArray, List.set_cons_zero, List.set_cons_succ]
              refine takeH 14 (some 32) (v := ?_) rfl rfl (by kernel_rfl) (by kernel_rfl) (by kernel_rfl) (by rfl) ?_ (by exact hHeld) ?_
              rotate_left
              · intro w hSw; (try dsimp only at hSw); obtain ⟨e1, e2⟩ := hpre _ hSw; go_simp; try (with_reducible rfl)
              try simp only [Act.put, List.setIfInBounds_toArray, List.set_cons_zero, List.set_cons_succ]
              refine takeH 16 (some 34) (v := ?_) rfl rfl (by kernel_rfl) (by kernel_rfl) (by kernel_rfl) (by rfl) ?_ (by exact hHeld) ?_
              rotate_left
              · intro w hSw; (try dsimp only at hSw); obtain ⟨e1, e2⟩ := hpre _ hSw; go_simp; try (with_reducible rfl)
              try simp only [Act.put, List.setIfInBounds_toArray, List.set_cons_zero, List.set_cons_succ]
              refine takeH 17 (some 35) (v := ?_) rfl rfl (by kernel_rfl) (by kernel_rfl) (by kernel_rfl) (by rfl) ?_ (by exact hHeld) ?_
              rotate_left
              · intro w hSw; (try dsimp only at hSw); obtain ⟨e1, e2⟩ := hpre _ hSw; go_simp; try (with_reducible rfl)
              try simp only [Act.put, List.setIfInBounds_toArray, List.set_cons_zero, List.set_cons_succ]
              refine wpAnyH_ready (rs := [15]) (by kernel_rfl) (by simp) ?_
              refine stepH 15 rfl (by rfl) (fun K hK => ?_) ?_
              · go_simp
                ((with_reducible refine (Same_any x y _ b HSM.out ?_ ?_).mono ?_); (exact HT.out.keep hHeld); (exact HU.out.keep hHeld); rintro e w15 ⟨rfl, q15⟩)
                refine hK.out _ _ ?_ (fun hNew => ?_)
                · (try dsimp only); first | exact below_t hHeld q1 | exact below_t hHeld q3 | exact below_t hHeld q7 | exact below_t hHeld q9 | exact below_t hHeld q15 | exact below_t hHeld q18 | exact below_t hHeld q24
                clear hK K hHeld
                have hHeld := hNew
                clear hNew
                try dsimp only at hHeld
                try simp only [Act.put, List.setIfInBounds_toArray, List.set_cons_zero, List.set_cons_succ]
                refine wpAnyH_ready (rs := [18]) (by kernel_rfl) (by simp) ?_
                refine stepH 18 rfl (by rfl) (fun K hK => ?_) ?_
                · go_simp
                  ((with_reducible refine (RSame_any x y _ b HSM.out ?_ ?_).mono ?_); (exact HT.out.keep hHeld); (exact HU.out.keep hHeld); rintro e w18 ⟨rfl, q18⟩)
                  refine hK.out _ _ ?_ (fun hNew => ?_)
                  · (try dsimp only); first | exact below_t hHeld q1 | exact below_t hHeld q3 | exact below_t hHeld q7 | exact below_t hHeld q9 | exact below_t hHeld q15 | exact below_t hHeld q18 | exact below_t hHeld q24
                  clear hK K hHeld
                  have hHeld := hNew
                  clear hNew
                  try dsimp only at hHeld
                  try simp only [Act.put, List.setIfInBounds_toArray, List.set_cons_zero, List.set_cons_succ]
                  refine takeH 19 (some 37) (v := ?_) rfl rfl (by kernel_rfl) (by kernel_rfl) (by kernel_rfl) (by rfl) ?_ (by exact hHeld) ?_
                  rotate_left
                  · intro w hSw; (try dsimp only at hSw); obtain ⟨e1, e2⟩ := hpre _ hSw; go_simp; try (with_reducible rfl)
                  try simp only [Act.put, List.setIfInBounds_toArray, List.set_cons_zero, List.set_cons_succ]
                  refine takeH 20 (some 38) (v := ?_) rfl rfl (by kernel_rfl) (by kernel_rfl) (by kernel_rfl) (by rfl) ?_ (by exact hHeld) ?_
                  rotate_left
                  · intro w hSw; (try dsimp only at hSw); obtain ⟨e1, e2⟩ := hpre _ hSw; go_simp; try (with_reducible rfl)
                  try simp only [Act.put, List.setIfInBounds_toArray, List.set_cons_zero, List.set_cons_succ]
                  refine takeH 21 (some 39) (v := ?_) rfl rfl (by kernel_rfl) (by kernel_rfl) (by kernel_rfl) (by rfl) ?_ (by exact hHeld) ?_
                  rotate_left
                  · intro w hSw; (try dsimp only at hSw); obtain ⟨e1, e2⟩ := hpre _ hSw; go_simp; try (with_reducible rfl)
                  try simp only [Act.put, List.setIfInBounds_toArray, List.set_cons_zero, List.set_cons_succ]
                  refine takeH 22 (some 40) (v := ?_) rfl rfl (by kernel_rfl) (by kernel_rfl) (by kernel_rfl) (by rfl) ?_ (by exact hHeld) ?_
                  rotate_left
                  · intro w hSw; (try dsimp only at hSw); obtain ⟨e1, e2⟩ := hpre _ hSw; go_simp; try (with_reducible rfl)
                  try simp only [Act.put, List.setIfInBounds_toArray, List.set_cons_zero, List.set_cons_succ]
                  refine takeH 23 (some 41) (v := ?_) rfl rfl (by kernel_rfl) (by kernel_rfl) (by kernel_rfl) (by rfl) ?_ (by exact hHeld) ?_
                  rotate_left
                  · intro w hSw; (try dsimp only at hSw); obtain ⟨e1, e2⟩ := hpre _ hSw; go_simp; try (with_reducible rfl)
                  try simp only [Act.put, List.setIfInBounds_toArray, List.set_cons_zero, List.set_cons_succ]
                  refine wpAnyH_ready (rs := [24]) (by kernel_rfl) (by simp) ?_
                  refine stepH 24 rfl (by rfl) (fun K hK => ?_) ?_
                  · go_simp
                    ((with_reducible refine (Same_any x x _ true (sameT_refl x) ?_ ?_).mono ?_); (exact HT.out.keep hHeld); (exact HT.out.keep hHeld); rintro e w24 ⟨rfl, q24⟩)
                    refine hK.out _ _ ?_ (fun hNew => ?_)
                    · (try dsimp only); first | exact below_t hHeld q1 | exact below_t hHeld q3 | exact below_t hHeld q7 | exact below_t hHeld q9 | exact below_t hHeld q15 | exact below_t hHeld q18 | exact below_t hHeld q24
                    clear hK K hHeld
                    have hHeld := hNew
                    clear hNew
                    try dsimp only at hHeld
                    try simp only [Act.put, List.setIfInBounds_toArray, List.set_cons_zero, List.set_cons_succ]
                    refine takeH 25 (some 43) (v := ?_) rfl rfl (by kernel_rfl) (by kernel_rfl) (by kernel_rfl) (by rfl) ?_ (by exact hHeld) ?_
                    rotate_left
                    · intro w hSw; (try dsimp only at hSw); obtain ⟨e1, e2⟩ := hpre _ hSw; go_simp; try (with_reducible rfl)
                    try simp only [Act.put, List.setIfInBounds_toArray, List.set_cons_zero, List.set_cons_succ]
                    refine takeH 26 (some 4) (v := ?_) rfl rfl (by kernel_rfl) (by kernel_rfl) (by kernel_rfl) (by rfl) ?_ (by exact hHeld) ?_
                    rotate_left
                    · intro w hSw; (try dsimp only at hSw); obtain ⟨e1, e2⟩ := hpre _ hSw; go_simp; try (with_reducible rfl)
                    try simp only [Act.put, List.setIfInBounds_toArray, List.set_cons_zero, List.set_cons_succ]
                    refine wpAnyH_done (by kernel_rfl) ?_ _
                    refine NoPanic.normal ?_
                    have HBf := Lib.hid (below_t HB.out hHeld)
                    clear hHeld q1 q3 q7 q9 q15 q18 q24 hpre
                    clear hA0 hA1 hA2 hA3 hA4 hA5 hB0 hB1 hB2 hB3 hB4 hB5
                    go_wp2_with fail
                    go_ret
                    exact ⟨by simp, HBf.out⟩
                  exact AllReadyH.nil
                exact AllReadyH.nil
              exact AllReadyH.nil
            exact AllReadyH.nil
          exact AllReadyH.nil
        exact AllReadyH.nil
      exact AllReadyH.nil
end Go.Proofs.Ytjehgcmcphgofaa
