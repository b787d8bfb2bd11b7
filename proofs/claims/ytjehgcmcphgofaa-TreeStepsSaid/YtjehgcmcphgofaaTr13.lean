/- Whether a node is well-formed: tree.formed, walked. No condition beyond what each says. -/
import Derived.Test.YtjehgcmcphgofaaTr12
namespace Go.Proofs.Ytjehgcmcphgofaa
open Go.RowKit Go.Shelf
set_option linter.unusedVariables false
set_option linter.unusedSimpArgs false

theorem name_eq {a b : ByteArray} (h : a = b) : (a.toList == b.toList) = true := by subst h; simp
theorem lexName_is (s : ByteArray) (r : Bool) (hr : nameB s = r) (w : World) : Calls Try.prog 46 #[.string s] w fun e w' => e = .returned (.bool r) ∧ Below w.heap.size w w' := hr ▸ lexName_any s w

set_option maxRecDepth 100000 in
set_option maxHeartbeats 2000000 in
theorem formed_any (d : TD) (kids : Nat → TV) (w : World) (h : TreeIn w (.mk d kids)) (r : Bool) (hr : nodeB d (kids 0).d.kind = r) : Calls Try.prog 31 #[.agg #[.int .i64 d.kind, .int .i64 d.fn, .int .i64 d.axis, .string d.name, .slice d.np d.nums.length d.nc, .slice d.kp d.n d.kc]] w fun e w' => e = .returned (.bool r) ∧ Below w.heap.size w w' := by
  have hba := below_alloc w (.cells #[.int .i64 d.kind, .int .i64 d.fn, .int .i64 d.axis, .string d.name, .slice d.np d.nums.length d.nc, .slice d.kp d.n d.kc] 25)
  have A := At6.new w _ d 25 rfl
  have hn := h.small
  have hnn := h.nums.small
  obtain ⟨W, hW⟩ : ∃ W, w.alloc (.cells #[.int .i64 d.kind, .int .i64 d.fn, .int .i64 d.axis, .string d.name, .slice d.np d.nums.length d.nc, .slice d.kp d.n d.kc] 25) = W := ⟨_, rfl⟩
  have HT := Lib.hid (h.keep hba)
  rw [hW] at A hba HT
  have HW := Lib.hid hW
  have HBA := Lib.hid hba
  have HRN := Lib.hid hr
  have HA := Lib.hid A
  have hA0 := A.c0
  have hAlt := A.lt
  clear hW A hba h hr
  go_enter Try.func31, Try.ntmps31
  go_wp2_with fail
  rw [HW.out]
  clear HW
  go_upto_region 1 with fail
  have hpre := fun (z : World) (hz : Below W.heap.size W z) => hz.cell (p := ⟨w.heap.size, 0, none⟩) hAlt
  go_cut [3, 4] (fun t u wx => ∃ g p fs a xa kk ok wz, t = .pointer (some ⟨g, 0, none⟩) ∧ u = .bool ok ∧ wz = wx ∧ Hid (FormSt W d.kind p fs a xa kk ok g wz))
  case first =>
    refine wp_region_noPanic ?_
    refine wp_region_held_drew (S := (fun z => Below W.heap.size W z)) (by kernel_rfl) ?_ (fun hHeld => ?_)
    · (try dsimp only); exact (Below.refl _ W).drew
    refine takeH 1 (some 7) (v := ?_) rfl rfl (by kernel_rfl) (by kernel_rfl) (by kernel_rfl) (by rfl) ?_ (by exact hHeld) ?_
    rotate_left
    · intro w hSw; (try dsimp only at hSw); have e1 := hpre _ hSw; go_simp; try (with_reducible rfl)
    try simp only [Act.put, List.setIfInBounds_toArray, List.set_cons_zero, List.set_cons_succ]
    refine takeH 2 (some 8) (v := ?_) rfl rfl (by kernel_rfl) (by kernel_rfl) (by kernel_rfl) (by rfl) ?_ (by exact hHeld) ?_
    rotate_left
    · intro w hSw; (try dsimp only at hSw); have e1 := hpre _ hSw; go_simp; try (with_reducible rfl)
    try simp only [Act.put, List.setIfInBounds_toArray, List.set_cons_zero, List.set_cons_succ]
    refine wpAnyH_ready (rs := [0, 7]) (by kernel_rfl) (by simp) ?_
    refine stepH 0 rfl (by rfl) (fun K hK => ?_) ?_
    · go_simp
      ((with_reducible refine (rules_any _).mono ?_); rintro e1 w1 ⟨⟨b, p1, p2, p3, a3, p4, a4, rfl, hRu⟩, hb1⟩; obtain ⟨p, fs, a, xa, kk, ok, hG⟩ := rule_look hRu d.kind; have hk1 := hG.run w1 rfl; have hk2 := fun o => hG.run (w1.alloc o) ((below_alloc w1 o).block b (Array.getElem?_eq_some_iff.1 hRu.map).1))
      refine hK.out _ _ ?_ (fun hNew => ?_)
      · (try dsimp only); first | exact hS13 | exact hHeld | exact below_t hHeld hb1 | exact below_t hHeld (below_alloc _ _)
      clear hK K hHeld
      have hHeld := hNew
      clear hNew
      try dsimp only at hHeld
      try simp only [Act.put, List.setIfInBounds_toArray, List.set_cons_zero, List.set_cons_succ]
      refine wpAnyH_ready (rs := [3, 7]) (by kernel_rfl) (by simp) ?_
      refine stepH 3 rfl (by rfl) (fun K hK => ?_) ?_
      · go_simp
        refine hK.out _ _ ?_ (fun hNew => ?_)
        · (try dsimp only); first | exact hS13 | exact hHeld | exact below_t hHeld hb1 | exact below_t hHeld (below_alloc _ _)
        clear hK K hHeld
        have hHeld := hNew
        clear hNew
        try dsimp only at hHeld
        try simp only [Act.put, List.setIfInBounds_toArray, List.set_cons_zero, List.set_cons_succ]
        refine takeH 4 (some 5) (v := ?_) rfl rfl (by kernel_rfl) (by kernel_rfl) (by kernel_rfl) (by rfl) ?_ (by exact hHeld) ?_
        rotate_left
        · intro w hSw; (try dsimp only at hSw); have e1 := hpre _ hSw; go_simp; try (with_reducible rfl)
        try simp only [Act.put, List.setIfInBounds_toArray, List.set_cons_zero, List.set_cons_succ]
        refine takeH 5 (some 10) (v := ?_) rfl rfl (by kernel_rfl) (by kernel_rfl) (by kernel_rfl) (by rfl) ?_ (by exact hHeld) ?_
        rotate_left
        · intro w hSw; (try dsimp only at hSw); have e1 := hpre _ hSw; go_simp; try (with_reducible rfl)
        try simp only [Act.put, List.setIfInBounds_toArray, List.set_cons_zero, List.set_cons_succ]
        refine takeH 6 (some 11) (v := ?_) rfl rfl (by kernel_rfl) (by kernel_rfl) (by kernel_rfl) (by rfl) ?_ (by exact hHeld) ?_
        rotate_left
        · intro w hSw; (try dsimp only at hSw); have e1 := hpre _ hSw; go_simp; try (with_reducible rfl)
        try simp only [Act.put, List.setIfInBounds_toArray, List.set_cons_zero, List.set_cons_succ]
        refine wpAnyH_ready (rs := [7]) (by kernel_rfl) (by simp) ?_
        refine stepH 7 rfl (by rfl) (fun K hK => ?_) ?_
        · go_simp
          refine hK.out _ _ ?_ (fun hNew => ?_)
          · (try dsimp only); first | exact hS13 | exact hHeld | exact below_t hHeld hb1 | exact below_t hHeld (below_alloc _ _)
          clear hK K hHeld
          have hHeld := hNew
          clear hNew
          try dsimp only at hHeld
          try simp only [Act.put, List.setIfInBounds_toArray, List.set_cons_zero, List.set_cons_succ]
          refine wpAnyH_ready (rs := [8]) (by kernel_rfl) (by simp) ?_
          refine stepH 8 rfl (by rfl) (fun K hK => ?_) ?_
          · (first | (have hL9 := form_L1 hb1 hG; obtain ⟨hO9, hM9⟩ := hL9; have hS13 := set3_below hHeld (Nat.le_refl _) (.slice p fs.length fs.length) (.slice a xa.length xa.length) (.int .i64 kk)) | (have hM9 := form_L2 hb1 hG; have hS13 := below_t (below_t ((Below.refl _ W).drew) hb1) (below_alloc w1 (.cells #[.slice p fs.length fs.length, .slice a xa.length xa.length, .int .i64 kk] 51)))); have HM9 := Lib.hid hM9; (try have t0 := hO9.cell (i := 0) rfl); (try have t1 := hO9.cell (i := 1) rfl); (try have t2 := hO9.cell (i := 2) rfl); (try have f0 := hO9.frozen 0); (try have f1 := hO9.frozen 1); (try have f2 := hO9.frozen 2); go_simp
            refine hK.out _ _ ?_ (fun hNew => ?_)
            · (try dsimp only); first | exact hS13 | exact hHeld | exact below_t hHeld hb1 | exact below_t hHeld (below_alloc _ _)
            clear hK K hHeld
            have hHeld := hNew
            clear hNew
            try dsimp only at hHeld
            try simp only [Act.put, List.setIfInBounds_toArray, List.set_cons_zero, List.set_cons_succ]
            refine takeH 9 (some 4) (v := ?_) rfl rfl (by kernel_rfl) (by kernel_rfl) (by kernel_rfl) (by rfl) ?_ (by exact hHeld) ?_
            rotate_left
            · intro w hSw; (try dsimp only at hSw); have e1 := hpre _ hSw; go_simp; try (with_reducible rfl)
            try simp only [Act.put, List.setIfInBounds_toArray, List.set_cons_zero, List.set_cons_succ]
            refine wpAnyH_done (by kernel_rfl) ?_ _
            refine NoPanic.normal ?_
            go_wp2_with fail
            all_goals go_meet
            exact ⟨_, _, _, _, _, _, _, _, rfl, rfl, rfl, HM9⟩
          exact AllReadyH.nil
        exact AllReadyH.nil
      refine stepH 7 rfl (by rfl) (fun K hK => ?_) ?_
      · go_simp
        refine hK.out _ _ ?_ (fun hNew => ?_)
        · (try dsimp only); first | exact hS13 | exact hHeld | exact below_t hHeld hb1 | exact below_t hHeld (below_alloc _ _)
        clear hK K hHeld
        have hHeld := hNew
        clear hNew
        try dsimp only at hHeld
        try simp only [Act.put, List.setIfInBounds_toArray, List.set_cons_zero, List.set_cons_succ]
        refine wpAnyH_ready (rs := [3]) (by kernel_rfl) (by simp) ?_
        refine stepH 3 rfl (by rfl) (fun K hK => ?_) ?_
        · go_simp
          refine hK.out _ _ ?_ (fun hNew => ?_)
          · (try dsimp only); first | exact hS13 | exact hHeld | exact below_t hHeld hb1 | exact below_t hHeld (below_alloc _ _)
          clear hK K hHeld
          have hHeld := hNew
          clear hNew
          try dsimp only at hHeld
          try simp only [Act.put, List.setIfInBounds_toArray, List.set_cons_zero, List.set_cons_succ]
          refine takeH 4 (some 5) (v := ?_) rfl rfl (by kernel_rfl) (by kernel_rfl) (by kernel_rfl) (by rfl) ?_ (by exact hHeld) ?_
          rotate_left
          · intro w hSw; (try dsimp only at hSw); have e1 := hpre _ hSw; go_simp; try (with_reducible rfl)
          try simp only [Act.put, List.setIfInBounds_toArray, List.set_cons_zero, List.set_cons_succ]
          refine takeH 5 (some 10) (v := ?_) rfl rfl (by kernel_rfl) (by kernel_rfl) (by kernel_rfl) (by rfl) ?_ (by exact hHeld) ?_
          rotate_left
          · intro w hSw; (try dsimp only at hSw); have e1 := hpre _ hSw; go_simp; try (with_reducible rfl)
          try simp only [Act.put, List.setIfInBounds_toArray, List.set_cons_zero, List.set_cons_succ]
          refine takeH 6 (some 11) (v := ?_) rfl rfl (by kernel_rfl) (by kernel_rfl) (by kernel_rfl) (by rfl) ?_ (by exact hHeld) ?_
          rotate_left
          · intro w hSw; (try dsimp only at hSw); have e1 := hpre _ hSw; go_simp; try (with_reducible rfl)
          try simp only [Act.put, List.setIfInBounds_toArray, List.set_cons_zero, List.set_cons_succ]
          refine wpAnyH_ready (rs := [8]) (by kernel_rfl) (by simp) ?_
          refine stepH 8 rfl (by rfl) (fun K hK => ?_) ?_
          · (first | (have hL9 := form_L1 hb1 hG; obtain ⟨hO9, hM9⟩ := hL9; have hS13 := set3_below hHeld (Nat.le_refl _) (.slice p fs.length fs.length) (.slice a xa.length xa.length) (.int .i64 kk)) | (have hM9 := form_L2 hb1 hG; have hS13 := below_t (below_t ((Below.refl _ W).drew) hb1) (below_alloc w1 (.cells #[.slice p fs.length fs.length, .slice a xa.length xa.length, .int .i64 kk] 51)))); have HM9 := Lib.hid hM9; (try have t0 := hO9.cell (i := 0) rfl); (try have t1 := hO9.cell (i := 1) rfl); (try have t2 := hO9.cell (i := 2) rfl); (try have f0 := hO9.frozen 0); (try have f1 := hO9.frozen 1); (try have f2 := hO9.frozen 2); go_simp
            refine hK.out _ _ ?_ (fun hNew => ?_)
            · (try dsimp only); first | exact hS13 | exact hHeld | exact below_t hHeld hb1 | exact below_t hHeld (below_alloc _ _)
            clear hK K hHeld
            have hHeld := hNew
            clear hNew
            try dsimp only at hHeld
            try simp only [Act.put, List.setIfInBounds_toArray, List.set_cons_zero, List.set_cons_succ]
            refine takeH 9 (some 4) (v := ?_) rfl rfl (by kernel_rfl) (by kernel_rfl) (by kernel_rfl) (by rfl) ?_ (by exact hHeld) ?_
            rotate_left
            · intro w hSw; (try dsimp only at hSw); have e1 := hpre _ hSw; go_simp; try (with_reducible rfl)
            try simp only [Act.put, List.setIfInBounds_toArray, List.set_cons_zero, List.set_cons_succ]
            refine wpAnyH_done (by kernel_rfl) ?_ _
            refine NoPanic.normal ?_
            go_wp2_with fail
            all_goals go_meet
            exact ⟨_, _, _, _, _, _, _, _, rfl, rfl, rfl, HM9⟩
          exact AllReadyH.nil
        exact AllReadyH.nil
      exact AllReadyH.nil
    refine stepH 7 rfl (by rfl) (fun K hK => ?_) ?_
    · go_simp
      refine hK.out _ _ ?_ (fun hNew => ?_)
      · (try dsimp only); first | exact hS13 | exact hHeld | exact below_t hHeld hb1 | exact below_t hHeld (below_alloc _ _)
      clear hK K hHeld
      have hHeld := hNew
      clear hNew
      try dsimp only at hHeld
      try simp only [Act.put, List.setIfInBounds_toArray, List.set_cons_zero, List.set_cons_succ]
      refine wpAnyH_ready (rs := [0]) (by kernel_rfl) (by simp) ?_
      refine stepH 0 rfl (by rfl) (fun K hK => ?_) ?_
      · go_simp
        ((with_reducible refine (rules_any _).mono ?_); rintro e1 w1 ⟨⟨b, p1, p2, p3, a3, p4, a4, rfl, hRu⟩, hb1⟩; obtain ⟨p, fs, a, xa, kk, ok, hG⟩ := rule_look hRu d.kind; have hk1 := hG.run w1 rfl; have hk2 := fun o => hG.run (w1.alloc o) ((below_alloc w1 o).block b (Array.getElem?_eq_some_iff.1 hRu.map).1))
        refine hK.out _ _ ?_ (fun hNew => ?_)
        · (try dsimp only); first | exact hS13 | exact hHeld | exact below_t hHeld hb1 | exact below_t hHeld (below_alloc _ _)
        clear hK K hHeld
        have hHeld := hNew
        clear hNew
        try dsimp only at hHeld
        try simp only [Act.put, List.setIfInBounds_toArray, List.set_cons_zero, List.set_cons_succ]
        refine wpAnyH_ready (rs := [3]) (by kernel_rfl) (by simp) ?_
        refine stepH 3 rfl (by rfl) (fun K hK => ?_) ?_
        · go_simp
          refine hK.out _ _ ?_ (fun hNew => ?_)
          · (try dsimp only); first | exact hS13 | exact hHeld | exact below_t hHeld hb1 | exact below_t hHeld (below_alloc _ _)
          clear hK K hHeld
          have hHeld := hNew
          clear hNew
          try dsimp only at hHeld
          try simp only [Act.put, List.setIfInBounds_toArray, List.set_cons_zero, List.set_cons_succ]
          refine takeH 4 (some 5) (v := ?_) rfl rfl (by kernel_rfl) (by kernel_rfl) (by kernel_rfl) (by rfl) ?_ (by exact hHeld) ?_
          rotate_left
          · intro w hSw; (try dsimp only at hSw); have e1 := hpre _ hSw; go_simp; try (with_reducible rfl)
          try simp only [Act.put, List.setIfInBounds_toArray, List.set_cons_zero, List.set_cons_succ]
          refine takeH 5 (some 10) (v := ?_) rfl rfl (by kernel_rfl) (by kernel_rfl) (by kernel_rfl) (by rfl) ?_ (by exact hHeld) ?_
          rotate_left
          · intro w hSw; (try dsimp only at hSw); have e1 := hpre _ hSw; go_simp; try (with_reducible rfl)
          try simp only [Act.put, List.setIfInBounds_toArray, List.set_cons_zero, List.set_cons_succ]
          refine takeH 6 (some 11) (v := ?_) rfl rfl (by kernel_rfl) (by kernel_rfl) (by kernel_rfl) (by rfl) ?_ (by exact hHeld) ?_
          rotate_left
          · intro w hSw; (try dsimp only at hSw); have e1 := hpre _ hSw; go_simp; try (with_reducible rfl)
          try simp only [Act.put, List.setIfInBounds_toArray, List.set_cons_zero, List.set_cons_succ]
          refine wpAnyH_ready (rs := [8]) (by kernel_rfl) (by simp) ?_
          refine stepH 8 rfl (by rfl) (fun K hK => ?_) ?_
          · (first | (have hL9 := form_L1 hb1 hG; obtain ⟨hO9, hM9⟩ := hL9; have hS13 := set3_below hHeld (Nat.le_refl _) (.slice p fs.length fs.length) (.slice a xa.length xa.length) (.int .i64 kk)) | (have hM9 := form_L2 hb1 hG; have hS13 := below_t (below_t ((Below.refl _ W).drew) hb1) (below_alloc w1 (.cells #[.slice p fs.length fs.length, .slice a xa.length xa.length, .int .i64 kk] 51)))); have HM9 := Lib.hid hM9; (try have t0 := hO9.cell (i := 0) rfl); (try have t1 := hO9.cell (i := 1) rfl); (try have t2 := hO9.cell (i := 2) rfl); (try have f0 := hO9.frozen 0); (try have f1 := hO9.frozen 1); (try have f2 := hO9.frozen 2); go_simp
            refine hK.out _ _ ?_ (fun hNew => ?_)
            · (try dsimp only); first | exact hS13 | exact hHeld | exact below_t hHeld hb1 | exact below_t hHeld (below_alloc _ _)
            clear hK K hHeld
            have hHeld := hNew
            clear hNew
            try dsimp only at hHeld
            try simp only [Act.put, List.setIfInBounds_toArray, List.set_cons_zero, List.set_cons_succ]
            refine takeH 9 (some 4) (v := ?_) rfl rfl (by kernel_rfl) (by kernel_rfl) (by kernel_rfl) (by rfl) ?_ (by exact hHeld) ?_
            rotate_left
            · intro w hSw; (try dsimp only at hSw); have e1 := hpre _ hSw; go_simp; try (with_reducible rfl)
            try simp only [Act.put, List.setIfInBounds_toArray, List.set_cons_zero, List.set_cons_succ]
            refine wpAnyH_done (by kernel_rfl) ?_ _
            refine NoPanic.normal ?_
            go_wp2_with fail
            all_goals go_meet
            exact ⟨_, _, _, _, _, _, _, _, rfl, rfl, rfl, HM9⟩
          exact AllReadyH.nil
        exact AllReadyH.nil
      exact AllReadyH.nil
    exact AllReadyH.nil
  case rest =>
    obtain ⟨g, p, fs, a, xa, kk, ok, wz, rfl, rfl, rfl, HF⟩ := hcut
    have A := HA.out.keep HF.out.below
    have G := HF.out.own
    have ht := HT.out.keep HF.out.below
    have HBw := Lib.hid (below_t HBA.out HF.out.below)
    have HRF : Hid (r = formB d (kids 0).d.kind fs xa kk ok) := by rw [Hid, ← HRN.out, formB_is HF.out.rule]
    have HRu := Lib.hid HF.out.rule
    obtain ⟨T, hT⟩ : ∃ T, ((if d.kind = 2 then nameB d.name else empB d) && ((decide (d.kind = 1) || decide (d.nums = [])) && (decide (d.kind ≠ 4) || (decide (d.fn = 6) || (decide ((kids 0).d.kind = 1) || decide ((kids 0).d.kind = 2)))))) = T := ⟨_, rfl⟩
    obtain ⟨c1, hc1⟩ : ∃ c, fs.any (fun x => d.fn == x) = c := ⟨_, rfl⟩
    obtain ⟨c2, hc2⟩ : ∃ c, axisT d xa = c := ⟨_, rfl⟩
    have HR0 : Hid (r = (ok && (c1 && (c2 && (decide ((d.n : Int) = kk) && T))))) := by rw [Hid, HRF.out, formB, hc1, hc2, hT]
    have H1 := Lib.hid hc1
    have H2 := Lib.hid hc2
    have HTl := Lib.hid hT
    clear hc1 hc2 hT hpre hA0
    have G0 := G.cell (i := 0) rfl
    have G1 := G.cell (i := 1) rfl
    have G2 := G.cell (i := 2) rfl
    cases ok with
    | false =>
      have HR : Hid (r = false) := HR0.out
      go_wp2_with fail
      go_ret
      exact ⟨ret_bool HR.out.symm, HBw.out⟩
    | true =>
      have hA1 := A.c1
      go_wp2_with fail
      refine (Contains_is d.fn p fs.length fs c1 H1.out _ HF.out.fns).mono ?_
      rintro e1 w1 ⟨rfl, rfl⟩
      cases c1 with
      | false =>
        have HR : Hid (r = false) := HR0.out
        go_wp2_with fail
        go_ret
        exact ⟨ret_bool HR.out.symm, HBw.out⟩
      | true =>
        clear hA1
        have hA0 := A.c0
        have hA1 := A.c1
        have hA2 := A.c2
        have hA3 := A.c3
        have hA4 := A.c4
        have hA5 := A.c5
        go_wp2_with fail
        refine (axis_any d p a fs.length fs.length xa.length xa kk _ HF.out.axes c2 H2.out).mono ?_
        rintro e2 w2 ⟨rfl, hb2⟩
        clear hA0
        clear hA1
        clear hA2
        clear hA3
        clear hA4
        clear hA5
        have HBw := Lib.hid (below_t HBw.out hb2)
        have A := A.keep hb2
        have ht := Lib.hid (ht.keep hb2)
        have G2 := (hb2.cell (p := ⟨g, 2, none⟩) G.lt).trans G2
        have HAA := Lib.hid A
        clear G0 G1 G HF hb2
        cases c2 with
        | false =>
          have HR : Hid (r = false) := HR0.out
          clear A
          go_wp2_with fail
          go_ret
          exact ⟨ret_bool HR.out.symm, HBw.out⟩
        | true =>
          by_cases hk : (d.n : Int) = kk
          · have hkb : ((d.n : Int) != kk) = false := by simp [hk]
            have HR : Hid (r = T) := by rw [Hid, HR0.out, decide_eq_true hk]; rfl
            have HK := Lib.hid hk
            clear hk A
            have hA5 := HAA.out.c5
            have hA0 := HAA.out.c0
            have hA3 := HAA.out.c3
            have hA4 := HAA.out.c4
            have hA1 := HAA.out.c1
            by_cases k2 : d.kind = 2
            · have kb2 : (d.kind == 2) = true := by simp [k2]
              have nb2 : (d.kind != 2) = false := by simp [k2]
              have nb1 : (d.kind != 1) = true := by simp [k2]
              have nb4 : (d.kind != 4) = true := by simp [k2]
              obtain ⟨c3, hc3⟩ : ∃ c, nameB d.name = c := ⟨_, rfl⟩
              have H3 := Lib.hid hc3
              have HT2 : Hid (T = (c3 && decide (d.nums = []))) := by rw [Hid, ← HTl.out, if_pos k2, hc3, decide_eq_false (p := d.kind = 1) (by omega), decide_eq_true (p := d.kind ≠ 4) (by omega)]; simp
              clear k2 hc3
              go_wp2_with fail
              refine (lexName_is d.name c3 H3.out _).mono ?_
              rintro e3 w3 ⟨rfl, hb3⟩
              have HBw := Lib.hid (below_t HBw.out hb3)
              have A3 := HAA.out.keep hb3
              clear hA0 hA1 hA3 hA4 hA5 G2 hb3
              have hA0 := A3.c0
              have hA4 := A3.c4
              clear A3
              cases c3 with
              | false =>
                have HR : Hid (r = false) := by rw [Hid, HR.out, HT2.out]; rfl
                go_wp2_with fail
                go_ret
                exact ⟨ret_bool HR.out.symm, HBw.out⟩
              | true =>
                by_cases hz : d.nums = []
                · have HR : Hid (r = true) := by rw [Hid, HR.out, HT2.out, decide_eq_true hz]; rfl
                  go_wp2_with fail
                  go_ret
                  exact ⟨ret_bool HR.out.symm, HBw.out⟩
                · have hp : 0 < d.nums.length := List.length_pos_iff.2 hz
                  have hp1 : (0 : Int) < (d.nums.length : Int) := by omega
                  have HR : Hid (r = false) := by rw [Hid, HR.out, HT2.out, decide_eq_false hz]; rfl
                  go_wp2_with fail
                  go_ret
                  exact ⟨ret_bool HR.out.symm, HBw.out⟩
            · have kb2 : (d.kind == 2) = false := by rw [beq_eq_false_iff_ne]; exact k2
              have nb2 : (d.kind != 2) = true := by simp [k2]
              by_cases he : d.name.toList = []
              rotate_left
              · have HR : Hid (r = false) := by rw [Hid, HR.out, ← HTl.out, if_neg k2, empB, decide_eq_false he]; rfl
                have hie : d.name.toList.isEmpty = false := by
                  cases h : d.name.toList with
                  | nil => exact absurd h he
                  | cons x xs => rfl
                clear k2
                go_wp2_with fail
                go_ret
                exact ⟨ret_bool HR.out.symm, HBw.out⟩
              by_cases k1 : d.kind = 1
              · have nb1 : (d.kind != 1) = false := by simp [k1]
                have nb4 : (d.kind != 4) = true := by simp [k1]
                have HR : Hid (r = true) := by rw [Hid, HR.out, ← HTl.out, if_neg k2, empB, decide_eq_true he, decide_eq_true k1, decide_eq_true (p := d.kind ≠ 4) (by omega)]; rfl
                clear k1 k2
                go_wp2_with fail
                go_ret
                exact ⟨ret_bool HR.out.symm, HBw.out⟩
              have nb1 : (d.kind != 1) = true := by simp [k1]
              by_cases hz : d.nums = []
              rotate_left
              · have hp : 0 < d.nums.length := List.length_pos_iff.2 hz
                have hp1 : (0 : Int) < (d.nums.length : Int) := by omega
                have HR : Hid (r = false) := by rw [Hid, HR.out, ← HTl.out, decide_eq_false k1, decide_eq_false hz]; simp
                clear k1 k2
                go_wp2_with fail
                go_ret
                exact ⟨ret_bool HR.out.symm, HBw.out⟩
              by_cases k4 : d.kind = 4
              rotate_left
              · have nb4 : (d.kind != 4) = true := by simp [k4]
                have HR : Hid (r = true) := by rw [Hid, HR.out, ← HTl.out, if_neg k2, empB, decide_eq_true he, decide_eq_true hz, decide_eq_true (p := d.kind ≠ 4) k4]; simp
                clear k1 k2 k4
                go_wp2_with fail
                go_ret
                exact ⟨ret_bool HR.out.symm, HBw.out⟩
              have nb4 : (d.kind != 4) = false := by simp [k4]
              have hn2 : d.n = 2 := by
                have h1 := HRu.out
                have h2 := HK.out
                rw [k4] at h1
                simp [ruleT] at h1
                omega
              have HR : Hid (r = (decide (d.fn = 6) || (decide ((kids 0).d.kind = 1) || decide ((kids 0).d.kind = 2)))) := by rw [Hid, HR.out, ← HTl.out, if_neg k2, empB, decide_eq_true he, decide_eq_true hz, decide_eq_false (p := d.kind ≠ 4) (by omega)]; simp
              by_cases h6 : d.fn = 6
              · have f6 : (d.fn == 6) = true := by simp [h6]
                have HR : Hid (r = true) := by rw [Hid, HR.out, decide_eq_true h6]; rfl
                clear k1 k2 k4 hn2 h6
                go_wp2_with fail
                go_ret
                exact ⟨ret_bool HR.out.symm, HBw.out⟩
              have f6 : (d.fn == 6) = false := by rw [beq_eq_false_iff_ne]; exact h6
              have HR : Hid (r = (decide ((kids 0).d.kind = 1) || decide ((kids 0).d.kind = 2))) := by rw [Hid, HR.out, decide_eq_false h6]; rfl
              obtain ⟨⟨gb, o, ek, hgb, N⟩, hTk⟩ := ht.out.kid (k := 0) (by omega)
              have N0 := N.c0
              have N1 := N.c1
              have N2 := N.c2
              have N3 := N.c3
              have N4 := N.c4
              have N5 := N.c5
              simp only [Nat.zero_mul, Nat.add_zero] at N0 N1 N2 N3 N4 N5
              rw [ek] at hA5
              have hn0 : (0 : Int) < (d.n : Int) := by omega
              have hw0 : IntKind.i64.wrap 0 = 0 := by decide
              clear k1 k2 k4 hn2 h6 ek N hTk
              go_wp2_with fail
              refine (atom_any (kids 0).d _ r HR.out.symm).mono ?_
              rintro e4 w4 ⟨rfl, hb4⟩
              go_wp2_with fail
              go_ret
              exact ⟨rfl, below_t HBw.out hb4⟩
          · have hkb : ((d.n : Int) != kk) = true := by simp [hk]
            have HR : Hid (r = false) := by rw [Hid, HR0.out, decide_eq_false hk]; simp
            have hA5 := HAA.out.c5
            clear hk A
            go_wp2_with fail
            go_ret
            exact ⟨ret_bool HR.out.symm, HBw.out⟩
end Go.Proofs.Ytjehgcmcphgofaa
