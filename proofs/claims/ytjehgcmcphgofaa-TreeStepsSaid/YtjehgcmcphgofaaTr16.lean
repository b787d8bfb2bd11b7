/- Whether two trees are the same, in the reference. No condition beyond what each says. -/
import Derived.Test.YtjehgcmcphgofaaTr15
namespace Go.Proofs.Ytjehgcmcphgofaa
open Go.RowKit Go.Shelf
set_option linter.unusedVariables false
set_option linter.unusedSimpArgs false

set_option maxHeartbeats 2000000 in
theorem RSame_step (d : TD) (kids : Nat → TV) (ih : ∀ i (u : TV) w r, sameT (kids i) u = r → TreeIn w (kids i) → TreeIn w u → Calls Try.prog 17 #[.agg #[.int .i64 (kids i).d.kind, .int .i64 (kids i).d.fn, .int .i64 (kids i).d.axis, .string (kids i).d.name, .slice (kids i).d.np (kids i).d.nums.length (kids i).d.nc, .slice (kids i).d.kp (kids i).d.n (kids i).d.kc], .agg #[.int .i64 u.d.kind, .int .i64 u.d.fn, .int .i64 u.d.axis, .string u.d.name, .slice u.d.np u.d.nums.length u.d.nc, .slice u.d.kp u.d.n u.d.kc]] w fun e w' => e = .returned (.bool r) ∧ Below w.heap.size w w')
    (e : TD) (kids' : Nat → TV) (w : World) (r : Bool) (hr : sameT (.mk d kids) (.mk e kids') = r) (h : TreeIn w (.mk d kids)) (h' : TreeIn w (.mk e kids')) : Calls Try.prog 17 #[.agg #[.int .i64 d.kind, .int .i64 d.fn, .int .i64 d.axis, .string d.name, .slice d.np d.nums.length d.nc, .slice d.kp d.n d.kc], .agg #[.int .i64 e.kind, .int .i64 e.fn, .int .i64 e.axis, .string e.name, .slice e.np e.nums.length e.nc, .slice e.kp e.n e.kc]] w fun e w' => e = .returned (.bool r) ∧ Below w.heap.size w w' := by
  obtain ⟨W, hW, hb, A, B⟩ := two_nodes w d e
  have HW := Lib.hid hW
  have HT := Lib.hid (h.keep hb)
  have HT' := Lib.hid (h'.keep hb)
  have hns := h.nums.small
  have hn1 := h.small
  have HB := Lib.hid hb
  have HR0 : Hid (r = (headB d e && (eqS d.nums e.nums && (decide (d.n = e.n) && everyTo d.n fun i => sameT (kids i) (kids' i))))) := by rw [Hid, ← hr, sameT_mk]
  have IH := Lib.hid ih
  have HAl := Lib.hid A.lt
  have HBl := Lib.hid B.lt
  have hA0 := A.c0
  have hA1 := A.c1
  have hA2 := A.c2
  have hA3 := A.c3
  have hA4 := A.c4
  have hA5 := A.c5
  have hB0 := B.c0
  have hB1 := B.c1
  have hB2 := B.c2
  have hB3 := B.c3
  have hB4 := B.c4
  have hB5 := B.c5
  clear hW A B hb h h' ih hr
  by_cases hk : d.kind = e.kind
  rotate_left
  · have ek : (d.kind != e.kind) = true := by simp [hk]
    have HR : Hid (r = false) := by rw [Hid, HR0.out, headB, decide_eq_false hk]; simp
    clear hk
    go_enter Try.func17, Try.ntmps17
    go_wp2_with fail
    rw [HW.out]
    clear HW
    go_wp2_with fail
    go_ret
    exact ⟨ret_bool HR.out.symm, HB.out⟩
  have ek : (d.kind != e.kind) = false := by simp [hk]
  have Hk := Lib.hid hk
  clear hk
  by_cases hf : d.fn = e.fn
  rotate_left
  · have ef : (d.fn != e.fn) = true := by simp [hf]
    have HR : Hid (r = false) := by rw [Hid, HR0.out, headB, decide_eq_false hf]; simp
    clear hf
    go_enter Try.func17, Try.ntmps17
    go_wp2_with fail
    rw [HW.out]
    clear HW
    go_wp2_with fail
    go_ret
    exact ⟨ret_bool HR.out.symm, HB.out⟩
  have ef : (d.fn != e.fn) = false := by simp [hf]
  have Hf := Lib.hid hf
  clear hf
  by_cases hx : d.axis = e.axis
  rotate_left
  · have ex : (d.axis != e.axis) = true := by simp [hx]
    have HR : Hid (r = false) := by rw [Hid, HR0.out, headB, decide_eq_false hx]; simp
    clear hx
    go_enter Try.func17, Try.ntmps17
    go_wp2_with fail
    rw [HW.out]
    clear HW
    go_wp2_with fail
    go_ret
    exact ⟨ret_bool HR.out.symm, HB.out⟩
  have ex : (d.axis != e.axis) = false := by simp [hx]
  have Hx := Lib.hid hx
  clear hx
  by_cases hm : d.name = e.name
  rotate_left
  · have em := name_ne hm
    have em2 : (d.name.toList != e.name.toList) = true := by rw [bne, em]; rfl
    have HR : Hid (r = false) := by rw [Hid, HR0.out, headB, decide_eq_false hm]; simp
    clear hm
    go_enter Try.func17, Try.ntmps17
    go_wp2_with fail
    rw [HW.out]
    clear HW
    go_wp2_with fail
    go_ret
    exact ⟨ret_bool HR.out.symm, HB.out⟩
  have em := name_eq hm
  have em2 : (d.name.toList != e.name.toList) = false := by rw [bne, em]; rfl
  have HR0 : Hid (r = (eqS d.nums e.nums && (decide (d.n = e.n) && everyTo d.n fun i => sameT (kids i) (kids' i)))) := by rw [Hid, HR0.out, headB, decide_eq_true Hk.out, decide_eq_true Hf.out, decide_eq_true Hx.out, decide_eq_true hm]; rfl
  clear hm
  by_cases hl : d.nums.length = e.nums.length
  rotate_left
  · have el : ((d.nums.length : Int) != (e.nums.length : Int)) = true := by simp; omega
    have HR : Hid (r = false) := by rw [Hid, HR0.out, eqS, decide_eq_false (fun h => hl (by rw [h]))]; rfl
    clear hl
    go_enter Try.func17, Try.ntmps17
    go_wp2_with fail
    rw [HW.out]
    clear HW
    go_wp2_with fail
    go_ret
    exact ⟨ret_bool HR.out.symm, HB.out⟩
  have el : ((d.nums.length : Int) != (e.nums.length : Int)) = false := by simp [hl]
  have HL := Lib.hid hl
  clear hl
  by_cases hn : d.n = e.n
  rotate_left
  · have en : ((d.n : Int) != (e.n : Int)) = true := by simp; omega
    have HR : Hid (r = false) := by rw [Hid, HR0.out, decide_eq_false hn]; simp
    clear hn
    go_enter Try.func17, Try.ntmps17
    go_wp2_with fail
    rw [HW.out]
    clear HW
    go_wp2_with fail
    go_ret
    exact ⟨ret_bool HR.out.symm, HB.out⟩
  have en : ((d.n : Int) != (e.n : Int)) = false := by simp [hn]
  have HN := Lib.hid hn
  have HR0 : Hid (r = (eqS d.nums e.nums && everyTo d.n fun i => sameT (kids i) (kids' i))) := by rw [Hid, HR0.out, decide_eq_true hn]; rfl
  clear hn
  obtain ⟨p1, hp1⟩ : ∃ q, d.np = q := ⟨_, rfl⟩
  obtain ⟨p2, hp2⟩ : ∃ q, e.np = q := ⟨_, rfl⟩
  obtain ⟨q1, hq1⟩ : ∃ q, d.kp = q := ⟨_, rfl⟩
  obtain ⟨q2, hq2⟩ : ∃ q, e.kp = q := ⟨_, rfl⟩
  have I1 := HT.out.nums
  have I2 := HT'.out.nums
  have HW2 : Hid ((w.alloc (.cells #[.int .i64 d.kind, .int .i64 d.fn, .int .i64 d.axis, .string d.name, .slice p1 d.nums.length d.nc, .slice q1 d.n d.kc] 25)).alloc (.cells #[.int .i64 e.kind, .int .i64 e.fn, .int .i64 e.axis, .string e.name, .slice p2 e.nums.length e.nc, .slice q2 e.n e.kc] 25) = W) := by rw [← hp1, ← hp2, ← hq1, ← hq2]; exact HW.out
  have HQ1 := Lib.hid hq1
  have HQ2 := Lib.hid hq2
  rw [hp1] at hA4 I1 ⊢
  rw [hp2] at hB4 I2 ⊢
  rw [hq1] at hA5 ⊢
  rw [hq2] at hB5 ⊢
  clear hp1 hp2 hq1 hq2 HW
  go_enter Try.func17, Try.ntmps17
  go_wp2_with fail
  rw [HW2.out]
  clear HW2
  go_wp2_with fail
  clear ek ef ex em em2 el en hA0 hA1 hA2 hA3 hB0 hB1 hB2 hB3
  go_loopw [5] (fun i wr => ∃ k m : Nat, k ≤ d.nums.length ∧ i = .int .i64 k ∧ wr = W.drewN m ∧ Hid (d.nums.take k = e.nums.take k)) (fun i _ => d.nums.length - (intOf i).toNat)
  case atStart => exact ⟨0, 0, Nat.zero_le _, rfl, rfl, by simp [Hid]⟩
  case round =>
    obtain ⟨k, m, hk, rfl, rfl, hI⟩ := hrel
    by_cases hlt : k < d.nums.length
    · have hlt' : k < e.nums.length := by rw [← HL.out]; exact hlt
      obtain ⟨b1, o1, rfl, -, hc⟩ := I1.at hlt
      obtain ⟨b2, o2, rfl, -, hc'⟩ := I2.at hlt'
      have hi1 : (k : Int) < (d.nums.length : Int) := by omega
      have hi2 : (k : Int) < (e.nums.length : Int) := by omega
      by_cases hx : nth d.nums k = nth e.nums k
      · have hxb : (nth d.nums k != nth e.nums k) = false := by simp [hx]
        have Hi : Hid (d.nums.take (k + 1) = e.nums.take (k + 1)) := by unfold Hid; rw [take_nth hlt, take_nth hlt', hI.out, hx]
        clear hx
        go_wp2
        go_quiet (fail)
        go_wp2
        go_roundw
        case rel => exact ⟨k + 1, _, by omega, by go_num, rfl, Hi⟩
        case measure => simp [intOf]; omega
      · have hxb : (nth d.nums k != nth e.nums k) = true := by simp [hx]
        have HR : Hid (r = false) := by
          rw [Hid, HR0.out, eqS, decide_eq_false (fun h => hx (by rw [h]))]; rfl
        clear hx
        go_wp2
        go_quiet (fail)
        go_wp2
        go_ret
        exact ⟨ret_bool HR.out.symm, by first | exact below_t HB.out (below_drewN _ _ _) | exact below_t HB.out (below_t (below_drewN _ _ _) (below_drewN _ _ _))⟩
    · have HR0 : Hid (r = everyTo d.n fun i => sameT (kids i) (kids' i)) := by
        have := hI.out
        rw [List.take_of_length_le (by omega), List.take_of_length_le (by have := HL.out; omega)] at this
        rw [Hid, HR0.out, eqS, decide_eq_true this]; rfl
      have hj1 : ¬ (k : Int) < (d.nums.length : Int) := by omega
      have hbd := below_drewN W.heap.size W m
      have HT := Lib.hid (HT.out.keep hbd)
      have HT' := Lib.hid (HT'.out.keep hbd)
      have HB := Lib.hid (below_t HB.out hbd)
      have hA4 := (hbd.cell (p := ⟨w.heap.size, 4, none⟩) HAl.out).trans hA4
      have hA5 := (hbd.cell (p := ⟨w.heap.size, 5, none⟩) HAl.out).trans hA5
      have hB5 := (hbd.cell (p := ⟨w.heap.size + 1, 5, none⟩) HBl.out).trans hB5
      have HAl := Lib.hid (Nat.lt_of_lt_of_le HAl.out hbd.size)
      have HBl := Lib.hid (Nat.lt_of_lt_of_le HBl.out hbd.size)
      generalize W.drewN m = V at *
      go_wp2_with fail
      go_loopw [6] (fun i wr => ∃ (k : Nat) (wz : World), wz = wr ∧ k ≤ d.n ∧ i = .int .i64 k ∧ Hid (everyTo k (fun i => sameT (kids i) (kids' i)) = true) ∧ Hid (Below V.heap.size V wz)) (fun i _ => d.n - (intOf i).toNat)
      case atStart => exact ⟨0, V, rfl, Nat.zero_le _, rfl, rfl, Below.refl _ _⟩
      case round =>
        obtain ⟨k, wz, rfl, hk, rfl, hY, hB⟩ := hrel
        have hA5 := (hB.out.cell (p := ⟨w.heap.size, 5, none⟩) HAl.out).trans hA5
        have hB5 := (hB.out.cell (p := ⟨w.heap.size + 1, 5, none⟩) HBl.out).trans hB5
        by_cases hlt : k < d.n
        · have hlt' : k < e.n := by rw [← HN.out]; exact hlt
          have hi1 : (k : Int) < (d.n : Int) := by omega
          have hi2 : (k : Int) < (e.n : Int) := by omega
          obtain ⟨⟨gb, o, e1, hg, N⟩, hTk⟩ := (HT.out.keep hB.out).kid hlt
          obtain ⟨⟨gb', o', e1', hg', N'⟩, hTk'⟩ := (HT'.out.keep hB.out).kid hlt'
          have c0 := N.c0
          have c1 := N.c1
          have c2 := N.c2
          have c3 := N.c3
          have c4 := N.c4
          have c5 := N.c5
          have k0 := N'.c0
          have k1 := N'.c1
          have k2 := N'.c2
          have k3 := N'.c3
          have k4 := N'.c4
          have k5 := N'.c5
          obtain rfl : q1 = some ⟨gb, o, none⟩ := HQ1.out.symm.trans e1
          obtain rfl : q2 = some ⟨gb', o', none⟩ := HQ2.out.symm.trans e1'
          obtain ⟨y, hy⟩ : ∃ y, sameT (kids k) (kids' k) = y := ⟨_, rfl⟩
          have HY := Lib.hid hy
          have hAz := Nat.lt_of_lt_of_le HAl.out hB.out.size
          have hBz := Nat.lt_of_lt_of_le HBl.out hB.out.size
          have hpre := fun (z : World) (hz : Below wz.heap.size wz z) => And.intro (hz.cell (p := ⟨w.heap.size, 5, none⟩) hAz) (And.intro (hz.cell (p := ⟨w.heap.size + 1, 5, none⟩) hBz) (And.intro (fun i => hz.cell (p := ⟨gb, i, none⟩) hg) (fun i => hz.cell (p := ⟨gb', i, none⟩) hg')))
          have HTk := Lib.hid hTk
          have HTk' := Lib.hid hTk'
          have HBz := Lib.hid (below_t HB.out hB.out)
          clear N N' e1 e1' hy hTk hTk'
          go_upto_region 11 with fail
          refine wp_region_noPanic ?_
          refine wp_region_held_drew (S := (fun z => Below wz.heap.size wz z)) (by kernel_rfl) ?_ (fun hHeld => ?_)
          · (try dsimp only); exact (Below.refl _ wz).drew
          refine takeH 0 (some 76) (v := ?_) rfl rfl (by kernel_rfl) (by kernel_rfl) (by kernel_rfl) (by rfl) ?_ (by exact hHeld) ?_
          rotate_left
          · intro w hSw; (try dsimp only at hSw); obtain ⟨e1, e2, e3, e4⟩ := hpre _ hSw; go_simp; try (with_reducible rfl)
          try simp only [Act.put, List.setIfInBounds_toArray, List.set_cons_zero, List.set_cons_succ]
          refine takeH 1 (some 77) (v := ?_) rfl rfl (by kernel_rfl) (by kernel_rfl) (by kernel_rfl) (by rfl) ?_ (by exact hHeld) ?_
          rotate_left
          · intro w hSw; (try dsimp only at hSw); obtain ⟨e1, e2, e3, e4⟩ := hpre _ hSw; go_simp; try (with_reducible rfl)
          try simp only [Act.put, List.setIfInBounds_toArray, List.set_cons_zero, List.set_cons_succ]
          refine takeH 2 (some 78) (v := ?_) rfl rfl (by kernel_rfl) (by kernel_rfl) (by kernel_rfl) (by rfl) ?_ (by exact hHeld) ?_
          rotate_left
          · intro w hSw; (try dsimp only at hSw); obtain ⟨e1, e2, e3, e4⟩ := hpre _ hSw; go_simp; try (with_reducible rfl)
          try simp only [Act.put, List.setIfInBounds_toArray, List.set_cons_zero, List.set_cons_succ]
          refine takeH 3 (some 79) (v := ?_) rfl rfl (by kernel_rfl) (by kernel_rfl) (by kernel_rfl) (by rfl) ?_ (by exact hHeld) ?_
          rotate_left
          · intro w hSw; (try dsimp only at hSw); obtain ⟨e1, e2, e3, e4⟩ := hpre _ hSw; go_simp; try (with_reducible rfl)
          try simp only [Act.put, List.setIfInBounds_toArray, List.set_cons_zero, List.set_cons_succ]
          refine takeH 4 (some 80) (v := ?_) rfl rfl (by kernel_rfl) (by kernel_rfl) (by kernel_rfl) (by rfl) ?_ (by exact hHeld) ?_
          rotate_left
          · intro w hSw; (try dsimp only at hSw); obtain ⟨e1, e2, e3, e4⟩ := hpre _ hSw; go_simp; try (with_reducible rfl)
          try simp only [Act.put, List.setIfInBounds_toArray, List.set_cons_zero, List.set_cons_succ]
          refine takeH 5 (some 81) (v := ?_) rfl rfl (by kernel_rfl) (by kernel_rfl) (by kernel_rfl) (by rfl) ?_ (by exact hHeld) ?_
          rotate_left
          · intro w hSw; (try dsimp only at hSw); obtain ⟨e1, e2, e3, e4⟩ := hpre _ hSw; go_simp; try (with_reducible rfl)
          try simp only [Act.put, List.setIfInBounds_toArray, List.set_cons_zero, List.set_cons_succ]
          refine takeH 6 (some 82) (v := ?_) rfl rfl (by kernel_rfl) (by kernel_rfl) (by kernel_rfl) (by rfl) ?_ (by exact hHeld) ?_
          rotate_left
          · intro w hSw; (try dsimp only at hSw); obtain ⟨e1, e2, e3, e4⟩ := hpre _ hSw; go_simp; try (with_reducible rfl)
          try simp only [Act.put, List.setIfInBounds_toArray, List.set_cons_zero, List.set_cons_succ]
          refine takeH 7 (some 83) (v := ?_) rfl rfl (by kernel_rfl) (by kernel_rfl) (by kernel_rfl) (by rfl) ?_ (by exact hHeld) ?_
          rotate_left
          · intro w hSw; (try dsimp only at hSw); obtain ⟨e1, e2, e3, e4⟩ := hpre _ hSw; go_simp; try (with_reducible rfl)
          try simp only [Act.put, List.setIfInBounds_toArray, List.set_cons_zero, List.set_cons_succ]
          refine takeH 8 (some 84) (v := ?_) rfl rfl (by kernel_rfl) (by kernel_rfl) (by kernel_rfl) (by rfl) ?_ (by exact hHeld) ?_
          rotate_left
          · intro w hSw; (try dsimp only at hSw); obtain ⟨e1, e2, e3, e4⟩ := hpre _ hSw; go_simp; try (with_reducible rfl)
          try simp only [Act.put, List.setIfInBounds_toArray, List.set_cons_zero, List.set_cons_succ]
          refine takeH 9 (some 85) (v := ?_) rfl rfl (by kernel_rfl) (by kernel_rfl) (by kernel_rfl) (by rfl) ?_ (by exact hHeld) ?_
          rotate_left
          · intro w hSw; (try dsimp only at hSw); obtain ⟨e1, e2, e3, e4⟩ := hpre _ hSw; go_simp; try (with_reducible rfl)
          try simp only [Act.put, List.setIfInBounds_toArray, List.set_cons_zero, List.set_cons_succ]
          refine wpAnyH_ready (rs := [10]) (by kernel_rfl) (by simp) ?_
          refine stepH 10 rfl (by rfl) (fun K hK => ?_) ?_
          · go_simp
            ((with_reducible refine (IH.out k (kids' k) _ y HY.out ?_ ?_).mono ?_); (exact HTk.out.keep hHeld); (exact HTk'.out.keep hHeld); rintro e1 w1 ⟨rfl, hb1⟩)
            refine hK.out _ _ ?_ (fun hNew => ?_)
            · (try dsimp only); first | exact below_t hHeld hb1
            clear hK K hHeld
            have hHeld := hNew
            clear hNew
            try dsimp only at hHeld
            try simp only [Act.put, List.setIfInBounds_toArray, List.set_cons_zero, List.set_cons_succ]
            refine takeH 11 (some 87) (v := ?_) rfl rfl (by kernel_rfl) (by kernel_rfl) (by kernel_rfl) (by rfl) ?_ (by exact hHeld) ?_
            rotate_left
            · intro w hSw; (try dsimp only at hSw); obtain ⟨e1, e2, e3, e4⟩ := hpre _ hSw; go_simp; try (with_reducible rfl)
            try simp only [Act.put, List.setIfInBounds_toArray, List.set_cons_zero, List.set_cons_succ]
            refine wpAnyH_done (by kernel_rfl) ?_ _
            refine NoPanic.normal ?_
            have HB' := Lib.hid (below_t hB.out hHeld)
            have HBw := Lib.hid (below_t HBz.out hHeld)
            clear c0 c1 c2 c3 c4 c5 k0 k1 k2 k3 k4 k5 hpre hb1 hHeld hA5 hB5
            cases y with
            | true =>
              have HNx : Hid (everyTo (k + 1) (fun i => sameT (kids i) (kids' i)) = true) := by
                simp only [Hid, everyTo]
                rw [hY.out, HY.out]; rfl
              go_wp2_with fail
              go_roundw
              case rel => exact ⟨k + 1, w1, rfl, by omega, by go_num, HNx, HB'⟩
              case measure => simp [intOf]; omega
            | false =>
              have HR : Hid (r = false) := by rw [Hid, HR0.out, everyTo_no hlt HY.out]
              go_wp2_with fail
              go_ret
              exact ⟨ret_bool HR.out.symm, HBw.out⟩
          exact AllReadyH.nil
        · have hi1 : ¬ (k : Int) < (d.n : Int) := by omega
          have HR : Hid (r = true) := by
            have h2 : k = d.n := by omega
            subst h2
            rw [Hid, HR0.out, hY.out]
          go_wp2_with fail
          go_ret
          exact ⟨ret_bool HR.out.symm, below_t HB.out hB.out⟩
theorem RSame_any : ∀ (t u : TV) (w : World) (r : Bool), sameT t u = r → TreeIn w t → TreeIn w u → Calls Try.prog 17 #[.agg #[.int .i64 t.d.kind, .int .i64 t.d.fn, .int .i64 t.d.axis, .string t.d.name, .slice t.d.np t.d.nums.length t.d.nc, .slice t.d.kp t.d.n t.d.kc], .agg #[.int .i64 u.d.kind, .int .i64 u.d.fn, .int .i64 u.d.axis, .string u.d.name, .slice u.d.np u.d.nums.length u.d.nc, .slice u.d.kp u.d.n u.d.kc]] w fun e w' => e = .returned (.bool r) ∧ Below w.heap.size w w'
  | .nil, _, _, _, _, h, _ => h.no
  | .mk _ _, .nil, _, _, _, _, h => h.no
  | .mk d kids, .mk e kids', w, r, hr, h, h' => RSame_step d kids (fun i u w r a b c => RSame_any (kids i) u w r a b c) e kids' w r hr h h'
end Go.Proofs.Ytjehgcmcphgofaa
