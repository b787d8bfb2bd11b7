/- OdometerOrders, walked. No condition. -/
import Derived.Test.YthkfjiioekhkhaaLaw04k
namespace Go.Proofs.Ythkfjiioekhkhaa
open Go.RowKit Go.Shelf
set_option linter.unusedVariables false
set_option linter.unusedSimpArgs false
attribute [local go_sem] Oper.semAt_some

set_option maxRecDepth 100000 in
set_option maxHeartbeats 4000000 in
theorem OdometerOrders_law (p : Option Addr) (c : Nat) (lo : List Int) (q : Option Addr) (f : Nat) (hi : List Int) (st : Int) (w : World) (h : Ints w p lo) (h' : Ints w q hi) (hst : 0 ≤ st ∧ st ≤ 255) :
    Calls Try.prog 3 #[.slice p lo.length c, .slice q hi.length f, .int .u8 st] w fun e w' => e = .returned (.bool true) ∧ Below w.heap.size w w' := by
  have hsm := h.small
  have hsm' := h'.small
  obtain ⟨b, hb⟩ : ∃ b, decide (FewX lo hi 300) = b := ⟨_, rfl⟩
  have HB := Lib.hid hb
  clear hb
  obtain ⟨W, hW⟩ : ∃ W, (w.alloc (.cells #[.int .u8 st] 5)).alloc (.cells #[.bool false] 4) = W := ⟨_, rfl⟩
  have hbw : Below w.heap.size w W := by rw [← hW]; exact below_t (below_alloc _ _) (below_alloc _ _)
  have o2 : Own W (w.heap.size + 1) 4 [.bool false] := by rw [← hW]; exact Own.made _ _ [_] _ (by simp)
  have o1 : Own W w.heap.size 5 [.int .u8 st] := by rw [← hW]; exact (Own.made w _ [_] _ rfl).keep (below_alloc _ _) (by simp)
  have hWs : W.heap.size = w.heap.size + 2 := by rw [← hW]; simp
  have HW := Lib.hid hW
  clear hW
  refine (callsIn_wide (n := 4)).1 ?_
  refine callsIn_of_wp_marks Try.func3 rfl trivial ?_ rfl
  simp only [Try.ntmps3, List.size_toArray, List.length_cons, List.length_nil, Nat.reduceAdd, Nat.reduceSub, Array.replicate_succ, Array.replicate_zero, List.push_toArray, List.append_toArray, List.nil_append, List.cons_append]
  refine wpIn_wide.2 ?_
  go_wp2_with fail
  rw [HW.out]
  clear HW
  refine (awake04 W).mono ?_
  rintro e1 w1 ⟨rfl, hb1⟩
  have o1 := o1.keep hb1 (by omega)
  have o2 := o2.keep hb1 (by omega)
  have hz1 := hb1.size
  have hbw := below_t hbw hb1
  go_wp2_with fail
  refine (Few_at p q c f lo hi 300 (by omega) b HB.out lo.length hi.length rfl rfl w1 (h.keep hbw) (h'.keep hbw)).mono ?_
  rintro e2 w2 ⟨rfl, hb2⟩
  have o1 := o1.keep hb2 (by omega)
  have o2 := o2.keep hb2 (by omega)
  have hz2 := hb2.size
  have hbw := below_t hbw hb2
  cases b with
  | false =>
    go_wp2_with fail
    refine (awake04 w2).mono ?_
    rintro e3 w3 ⟨rfl, hb3⟩
    have o3 := o2.keep hb3 (by omega)
    have k2 := o3.cell (i := 0) rfl
    have f2 := o3.frozen 0
    have hbz := below_set (below_t hbw hb3) (show w.heap.size ≤ w.heap.size + 1 by omega) 0 (.bool true)
    have k3 := (o3.set (i := 0) (by simp) (.bool true)).cell (i := 0) rfl
    go_wp2_with fail
    refine ⟨_, (by simp [results, Try.results3, go_sem, k3] : (results Try.f3 _).run Try.prog _ = .ok (.bool true) _), rfl, hbz⟩
  | true =>
    have hF : FewX lo hi 300 := of_decide_eq_true HB.out
    have HF := Lib.hid hF
    have h16 := hF.2.1
    have HLE := Lib.hid hF.1
    have hcap : lo.length ≤ 1000000 := by omega
    have hcap' : hi.length ≤ 1000000 := by have := hF.1; omega
    clear hF
    have HBT := Lib.hid (RefBetween_any p q c f lo hi (by have := HLE.out; omega) hcap HF.out.2.2.1 (few_bound (by omega) (by omega) HF.out) w2 (h.keep hbw) (h'.keep hbw))
    go_wp2_with fail
    refine HBT.out.mono ?_
    rintro e3 w5 ⟨⟨pw, cw, rs, rfl, hrows, hrv⟩, hb5⟩
    have o1 := o1.keep hb5 (by omega)
    have o2 := o2.keep hb5 (by omega)
    have hbw := below_t hbw hb5
    have hz5 := hb5.size
    clear hb5 HBT
    go_upto_region 4 with fail
    have hbx := below_alloc w5 (.cells #[.slice pw rs.length cw] 25)
    have oW : Own (w5.alloc (.cells #[.slice pw rs.length cw] 25)) w5.heap.size 25 [.slice pw rs.length cw] := Own.made _ _ [_] _ rfl
    obtain ⟨w6, hw6⟩ : ∃ w6, w5.alloc (.cells #[.slice pw rs.length cw] 25) = w6 := ⟨_, rfl⟩
    obtain ⟨X7, hX7⟩ : ∃ X7, w5.heap.size = X7 := ⟨_, rfl⟩
    have hX7' : w5.heap.size ≤ X7 := by omega
    rw [hw6] at hbx oW
    rw [hX7] at oW
    rw [hw6, hX7]
    clear hw6 hX7
    have o1 := o1.keep hbx (by omega)
    have o2 := o2.keep hbx (by omega)
    have hrows := hrows.keep hbx
    have hbw := below_t hbw hbx
    have hz6 := hbx.size
    have hl7 := oW.lt
    clear hbx
    obtain ⟨L, hL⟩ : ∃ L, betX lo hi = L := ⟨_, rfl⟩
    have HL := Lib.hid hL
    have HOK := Lib.hid (few_ok HF.out h.i64 h'.i64)
    have hLN : L.length ≤ 1000000 := by have := bet_bound (by omega) (by omega) HF.out; rw [hL] at this; exact this
    have HRV : Hid (rs.map RowV.v = L) := by rw [Hid, hrv, hL]
    have HRW := Lib.hid hrows
    have hrl : rs.length = L.length := by have e := congrArg List.length HRV.out; rw [List.length_map] at e; exact e
    have HRL := Lib.hid hrl
    have hrl6 : rs.length ≤ 1000000 := by omega
    have HR64 : Hid (∀ rt : List RowV, rt.map RowV.v = L → ∀ r ∈ rt, (∀ x ∈ r.v, I64 x) ∧ r.v.length ≤ 1000000) := fun rt hrt r hr => by
      have hm := mem_of_map hrt hr
      rw [← HL.out] at hm
      obtain ⟨m1, m2, -⟩ := bet_ok HOK.out hm
      exact ⟨m2, by omega⟩
    have hlo6 := h.keep hbw
    have hhi6 := h'.keep hbw
    have hS : (fun z => (X7 < z.heap.size ∧ z.cell? ⟨X7, 0, none⟩ = some (.slice pw rs.length cw)) ∧ Below w6.heap.size w6 z) w6 := ⟨⟨hl7, oW.cell (i := 0) rfl⟩, Below.refl _ _⟩
    have hKS : Keeps (fun z => (X7 < z.heap.size ∧ z.cell? ⟨X7, 0, none⟩ = some (.slice pw rs.length cw)) ∧ Below w6.heap.size w6 z) := (keeps_cell _ _ _).and (keeps_below w6)
    have hceq : ((L.length : Int) != (rs.length : Int)) = false := by simp [hrl]
    clear hL hrv hrows hrl
    refine wp_region_noPanic ?_
    refine wp_region_held_drew (S := (fun z => (X7 < z.heap.size ∧ z.cell? ⟨X7, 0, none⟩ = some (.slice pw rs.length cw)) ∧ Below w6.heap.size w6 z)) (by kernel_rfl) ?_ (fun hHeld => ?_)
    · (try dsimp only); first | exact hKS _ _ (by first | exact hHeld | exact hS) (by first | assumption | (go_grown; done) | (refine from_drew ?_; go_grown; done))
    refine takeH 0 (some 22) (v := ?_) rfl rfl (by kernel_rfl) (by kernel_rfl) (by kernel_rfl) (by rfl) ?_ (by exact hHeld) ?_
    rotate_left
    · intro w hSw; (try dsimp only at hSw); go_simp; try (with_reducible rfl)
    try simp only [Act.put, List.setIfInBounds_toArray, List.set_cons_zero, List.set_cons_succ]
    refine takeH 1 (some 23) (v := ?_) rfl rfl (by kernel_rfl) (by kernel_rfl) (by kernel_rfl) (by rfl) ?_ (by exact hHeld) ?_
    rotate_left
    · intro w hSw; (try dsimp only at hSw); go_simp; try (with_reducible rfl)
    try simp only [Act.put, List.setIfInBounds_toArray, List.set_cons_zero, List.set_cons_succ]
    refine takeH 3 (some 25) (v := ?_) rfl rfl (by kernel_rfl) (by kernel_rfl) (by kernel_rfl) (by rfl) ?_ (by exact hHeld) ?_
    rotate_left
    · intro w hSw; (try dsimp only at hSw); go_simp; try (with_reducible rfl)
    try simp only [Act.put, List.setIfInBounds_toArray, List.set_cons_zero, List.set_cons_succ]
    refine wpAnyH_ready (rs := [2]) (by kernel_rfl) (by simp) ?_
    refine stepH 2 rfl (by rfl) (fun K hK => ?_) ?_
    · go_simp
      ((with_reducible refine (Collect_any p q c f lo hi HOK.out L HL.out hLN lo.length hi.length rfl rfl _ ?_ ?_).mono ?_); (exact hlo6.keep hHeld.2); (exact hhi6.keep hHeld.2); rintro e7 w7 ⟨⟨pc, cc, rt, rfl, hrt, hrtv⟩, hb7⟩)
      refine hK.out _ _ ?_ (fun hNew => ?_)
      · (try dsimp only); first | exact hKS _ _ (by first | exact hHeld | exact hS) (by first | assumption | (go_grown; done) | (refine from_drew ?_; go_grown; done))
      clear hK K hHeld
      have hHeld := hNew
      clear hNew
      try dsimp only at hHeld
      try simp only [Act.put, List.setIfInBounds_toArray, List.set_cons_zero, List.set_cons_succ]
      refine wpAnyH_ready (rs := [4]) (by kernel_rfl) (by simp) ?_
      refine stepH 4 rfl (by rfl) (fun K hK => ?_) ?_
      · go_simp
        ((with_reducible refine (Same_yes 0 0 pc pw cc cw rt rs (hrtv.trans HRV.out.symm) rt.length rs.length rfl rfl (by have e := congrArg List.length hrtv; rw [List.length_map] at e; omega) ?_ _ ?_ ?_).mono ?_); (exact HR64.out rt hrtv); (exact hrt.mono (Nat.zero_le _)); (exact (HRW.out.keep hHeld.2).mono (Nat.zero_le _)); rintro e8 w8 ⟨rfl, hb8⟩)
        refine hK.out _ _ ?_ (fun hNew => ?_)
        · (try dsimp only); first | exact hKS _ _ (by first | exact hHeld | exact hS) (by first | assumption | (go_grown; done) | (refine from_drew ?_; go_grown; done))
        clear hK K hHeld
        have hHeld := hNew
        clear hNew
        try dsimp only at hHeld
        try simp only [Act.put, List.setIfInBounds_toArray, List.set_cons_zero, List.set_cons_succ]
        refine takeH 5 (some 27) (v := ?_) rfl rfl (by kernel_rfl) (by kernel_rfl) (by kernel_rfl) (by rfl) ?_ (by exact hHeld) ?_
        rotate_left
        · intro w hSw; (try dsimp only at hSw); go_simp; try (with_reducible rfl)
        try simp only [Act.put, List.setIfInBounds_toArray, List.set_cons_zero, List.set_cons_succ]
        refine takeH 6 (some 28) (v := ?_) rfl rfl (by kernel_rfl) (by kernel_rfl) (by kernel_rfl) (by rfl) ?_ (by exact hHeld) ?_
        rotate_left
        · intro w hSw; (try dsimp only at hSw); go_simp; try (with_reducible rfl)
        try simp only [Act.put, List.setIfInBounds_toArray, List.set_cons_zero, List.set_cons_succ]
        refine takeH 7 (some 29) (v := ?_) rfl rfl (by kernel_rfl) (by kernel_rfl) (by kernel_rfl) (by rfl) ?_ (by exact hHeld) ?_
        rotate_left
        · intro w hSw; (try dsimp only at hSw); go_simp; try (with_reducible rfl)
        try simp only [Act.put, List.setIfInBounds_toArray, List.set_cons_zero, List.set_cons_succ]
        refine takeH 8 (some 30) (v := ?_) rfl rfl (by kernel_rfl) (by kernel_rfl) (by kernel_rfl) (by rfl) ?_ (by exact hHeld) ?_
        rotate_left
        · intro w hSw; (try dsimp only at hSw); go_simp; try (with_reducible rfl)
        try simp only [Act.put, List.setIfInBounds_toArray, List.set_cons_zero, List.set_cons_succ]
        refine takeH 10 (some 32) (v := ?_) rfl rfl (by kernel_rfl) (by kernel_rfl) (by kernel_rfl) (by rfl) ?_ (by exact hHeld) ?_
        rotate_left
        · intro w hSw; (try dsimp only at hSw); go_simp; try (with_reducible rfl)
        try simp only [Act.put, List.setIfInBounds_toArray, List.set_cons_zero, List.set_cons_succ]
        refine takeH 11 (some 33) (v := ?_) rfl rfl (by kernel_rfl) (by kernel_rfl) (by kernel_rfl) (by rfl) ?_ (by exact hHeld) ?_
        rotate_left
        · intro w hSw; (try dsimp only at hSw); go_simp; try (with_reducible rfl)
        try simp only [Act.put, List.setIfInBounds_toArray, List.set_cons_zero, List.set_cons_succ]
        refine wpAnyH_ready (rs := [9]) (by kernel_rfl) (by simp) ?_
        refine stepH 9 rfl (by rfl) (fun K hK => ?_) ?_
        · go_simp
          ((with_reducible refine (Count_at p q c f lo hi HOK.out L.length (by rw [HL.out]) lo.length hi.length rfl rfl _ ?_ ?_).mono ?_); (exact hlo6.keep hHeld.2); (exact hhi6.keep hHeld.2); rintro e9 w9 ⟨rfl, hb9⟩)
          refine hK.out _ _ ?_ (fun hNew => ?_)
          · (try dsimp only); first | exact hKS _ _ (by first | exact hHeld | exact hS) (by first | assumption | (go_grown; done) | (refine from_drew ?_; go_grown; done))
          clear hK K hHeld
          have hHeld := hNew
          clear hNew
          try dsimp only at hHeld
          try simp only [Act.put, List.setIfInBounds_toArray, List.set_cons_zero, List.set_cons_succ]
          refine takeH 12 (some 34) (v := ?_) rfl rfl (by kernel_rfl) (by kernel_rfl) (by kernel_rfl) (by rfl) ?_ (by exact hHeld) ?_
          rotate_left
          · intro w hSw; (try dsimp only at hSw); go_simp; try (with_reducible rfl)
          try simp only [Act.put, List.setIfInBounds_toArray, List.set_cons_zero, List.set_cons_succ]
          refine takeH 13 (some 35) (v := ?_) rfl rfl (by kernel_rfl) (by kernel_rfl) (by kernel_rfl) (by rfl) ?_ (by exact hHeld) ?_
          rotate_left
          · intro w hSw; (try dsimp only at hSw); go_simp; try (with_reducible rfl)
          try simp only [Act.put, List.setIfInBounds_toArray, List.set_cons_zero, List.set_cons_succ]
          refine wpAnyH_done (by kernel_rfl) ?_ _
          refine NoPanic.normal ?_
          have hb9w := hHeld.2
          have o1 := o1.keep hb9w (by omega)
          have o2 := o2.keep hb9w (by omega)
          have oW := oW.keep hb9w hl7
          have hrw9 := HRW.out.keep hb9w
          have hbw := below_t hbw hb9w
          have hz9 := hb9w.size
          have hlo9 := h.keep (below_t hbw (below_alloc w9 (.cells #[.int .i64 0] 3)))
          have hhi9 := h'.keep (below_t hbw (below_alloc w9 (.cells #[.int .i64 0] 3)))
          have oK : Own (w9.alloc (.cells #[.int .i64 0] 3)) w9.heap.size 3 [.int .i64 0] := Own.made _ _ [_] _ rfl
          have hzl : (w9.alloc (.cells #[.int .i64 0] 3)).heap.size = w9.heap.size + 1 := by simp
          have hbl := below_alloc w9 (.cells #[.int .i64 0] 3)
          have HRW9 := Lib.hid hrw9
          have HO1 := Lib.hid o1
          have HO2 := Lib.hid o2
          have HOW := Lib.hid oW
          clear hHeld hb9w hb7 hb8 hb9 hrtv hrt hlo6 hhi6 hKS hS hceq hrw9 o1 o2 oW
          go_wp2_with fail
          obtain ⟨wk, hwk⟩ : ∃ wk, w9.alloc (.cells #[.int .i64 0] 3) = wk := ⟨_, rfl⟩
          rw [hwk] at oK hzl hbl hlo9 hhi9
          rw [hwk]
          clear hwk
          refine (Between_any p q c f lo hi lo.length hi.length rfl rfl hcap hcap' wk hlo9 hhi9).mono ?_
          rintro e11 w11 ⟨rfl, ⟨p1, p2, c1, c2, hR⟩, hb11⟩
          have oK := oK.keep hb11 oK.lt
          have hbl := below_t hbl hb11
          have hz11 := hb11.size
          have hl1 := HO1.out.lt
          have hl2 := HO2.out.lt
          have hlw := HOW.out.lt
          rw [hzl] at hR
          have HR := Lib.hid hR
          clear hR hb11 hlo9 hhi9
          go_wp2_with fail
          refine wpIn_wide.1 (wpIn_rangeFunc_odo (n := 4) (by omega) HOK.out L HL.out HR.out rfl rfl (fun b pre Z => Below w9.heap.size w9 Z ∧ Own Z w9.heap.size 3 [.int .i64 pre.length] ∧ (pre.length : Int) ≤ st) (fun c b pre Z => c = .exit 0 ∧ Below w9.heap.size w9 Z ∧ Own Z w9.heap.size 3 [.int .i64 pre.length] ∧ (pre.length : Int) = st + 1) ?_ ?_ ?_ ?a1 ?assign ?body ?done ?stop)
          case assign =>
            intro l x Z K hK
            gi_wp2
            exact hK
          · rintro b pre A B row ⟨k1, k2, k3⟩ hg hr
            exact ⟨k1.grown hg k1.size (fun k e => by have := (hr k e).1; omega), k2.block (hg.block _ k2.lt (fun e => by have := (hr _ e.symm).1; omega)), k3⟩
          · rintro c b pre A B row ⟨k0, k1, k2, k3⟩ hg hr
            exact ⟨k0, k1.grown hg k1.size (fun k e => by have := (hr k e).1; omega), k2.block (hg.block _ k2.lt (fun e => by have := (hr _ e.symm).1; omega)), k3⟩
          · rintro b A hb hg
            exact ⟨hbl.grown hg hbl.size (fun k e => by cases e), oK.block (hg.block _ oK.lt (by simp)), hst.1⟩
          case body =>
            rintro l b pre x A Z hb ⟨k1, k2, k3⟩ hAZ ⟨hl1', hl2', hl3, o, ho1, ho2⟩ hmap hlen hnew
            have k1 := k1.grown hAZ k1.size fun k e => by cases e; omega
            have k2 := k2.block (hAZ.block _ k2.lt (fun e => by cases e; omega))
            have hxk : L[pre.length]? = some x.v := by
              have := congrArg (fun l => l[pre.length]?) hmap
              rw [List.getElem?_map, List.getElem?_append_right (Nat.le_refl _), Nat.sub_self] at this
              rw [List.getElem?_take_of_lt (by omega)] at this
              exact this.symm
            have hplr : pre.length < rs.length := by have := HRL.out; omega
            obtain ⟨r, hr⟩ : ∃ r, rs[pre.length]? = some r := ⟨_, List.getElem?_eq_getElem hplr⟩
            have hrx : r.v = x.v := by
              have := row_of HRV.out hr
              rw [hxk] at this
              exact (Option.some.inj this).symm
            rw [← HL.out] at hxk
            obtain ⟨x1, x2, -⟩ := bet_ok HOK.out (List.mem_of_getElem? hxk)
            have hxi : Ints Z x.p x.v := hnew.ints x2 (by omega)
            obtain ⟨⟨bw, hbw1, hbw2, kw⟩, nw⟩ := HRW9.out.at hr
            subst hbw1
            rw [hrx] at kw nw
            have iw : Ints w9 r.p x.v := nw.ints x2 (by omega)
            have HBB := Lib.hid (fun g (e : b = some g) => (hb g e).1)
            have HIW := Lib.hid iw
            have hxl : x.v.length ≤ 1000000 := by omega
            have hxc : x.cell = .slice x.p x.v.length x.c := rfl
            have hp1 : (pre.length : Int) < (rs.length : Int) := by omega
            have m9 := k2.cell (i := 0) rfl
            have mW := (HOW.out.keep k1 hlw).cell (i := 0) rfl
            have mw := (k1.cell (p := ⟨bw, pre.length, none⟩) hbw2).trans kw
            have hdd : 1 ≤ 4 - 1 - 1 := by omega
            clear hmap hlen hnew hAZ ho1 ho2 hb hxk hr hrx nw iw
            rw [hxc]
            gi_wp2
            refine ⟨trivial, (CallsIn.inRound l (callsIn_wide.2 (refEq_true x.v lo.length lo.length x1 x1 _ _ _ _ Z hxi (HIW.out.keep k1)))).mono ?_⟩
            rintro e12 z1 ⟨rfl, hq1⟩
            have j1 := below_t k1 hq1
            have k2 := k2.keep hq1 k2.lt
            have m9 := k2.cell (i := 0) rfl
            have f9 := k2.frozen 0
            have hn9 : w9.heap.size ≠ w.heap.size := by omega
            have HE := Lib.hid (round_end (N := w11.heap.size) (n1 := w9.heap.size + 1) (n2 := w11.heap.size) (b := b) (.int .i64 ((pre.length : Int) + 1)) hq1 (show w9.heap.size < w11.heap.size by omega) (show w9.heap.size < w9.heap.size + 1 by omega) HBB.out ⟨_, _, k2⟩)
            have HI := Lib.hid (And.intro (below_set j1 (Nat.le_refl _) 0 (.int .i64 ((pre.length : Int) + 1))) (k2.set (i := 0) (by simp) (.int .i64 ((pre.length : Int) + 1))))
            have m1 := ((HO1.out.keep j1 hl1).other (a := ⟨w9.heap.size, 0, none⟩) hn9 (.int .i64 ((pre.length : Int) + 1))).cell (i := 0) rfl
            have m10 := (k2.set (i := 0) (by simp) (.int .i64 ((pre.length : Int) + 1))).cell (i := 0) rfl
            clear mw mW hq1 j1 k1 k2
            by_cases kk : st < (pre.length : Int) + 1
            · have dk : decide (st < (pre.length : Int) + 1) = true := decide_eq_true kk
              gi_wp2
              exact ⟨HE.out.1, rfl, HI.out.1, (by rw [List.length_append]; exact HI.out.2), (by rw [List.length_append, List.length_singleton]; omega)⟩
            · have dk : decide (st < (pre.length : Int) + 1) = false := decide_eq_false kk
              gi_wp2
              exact ⟨HE.out.1, HE.out.2, HI.out.1, (by rw [List.length_append]; exact HI.out.2), (by rw [List.length_append, List.length_singleton]; omega)⟩
          case done =>
            rintro D b xs Z hD hmap ⟨k1, k2, k3⟩ hK
            have hxs : xs.length = rs.length := by have e := congrArg List.length hmap; rw [List.length_map] at e; have := HRL.out; omega
            rw [hxs] at k2 k3
            have m9 := k2.cell (i := 0) rfl
            have mW := (HOW.out.keep k1 hlw).cell (i := 0) rfl
            have m1 := (HO1.out.keep k1 hl1).cell (i := 0) rfl
            have o3z := HO2.out.keep k1 hl2
            have m3 := o3z.cell (i := 0) rfl
            have f3 := o3z.frozen 0
            have hbs := below_set (below_t hbw k1) (show w.heap.size ≤ w.heap.size + 1 by omega) 0 (.bool true)
            have hbz := hbs.grown (grownBy_putObj' (Z.setCell ⟨w.heap.size + 1, 0, none⟩ (.bool true)) D (.deferred none)) hbs.size (fun k e => by cases e; omega)
            have hKz : (Z.setCell ⟨w.heap.size + 1, 0, none⟩ (.bool true)).heap[D]? = some (.deferred (some [])) := (Below.heap_setCell Z ⟨w.heap.size + 1, 0, none⟩ (.bool true) D (show D ≠ w.heap.size + 1 by omega)).trans hK
            have ow5 := ((o3z.set (i := 0) (by simp) (.bool true)).grown (grownBy_putObj' _ D (.deferred none)) (show some (w.heap.size + 1) ≠ some D by intro e; cases e; omega)).cell (i := 0) rfl
            have HKZ := Lib.hid hKz
            have HBZ := Lib.hid hbz
            have HOW5 := Lib.hid ow5
            have hceq : ((rs.length : Int) == (rs.length : Int)) = true := by simp
            have hmin : ¬ (st + 1 < (rs.length : Int)) := by omega
            clear hK hKz hbz hbs ow5 hmap k1 k2 hxs o3z
            go_wp2_with fail
            all_goals (try rw [show (st + 1 == (rs.length : Int)) = true by (rw [beq_iff_eq]; omega)])
            all_goals (try rw [show ((rs.length : Int) == st + 1) = true by (rw [beq_iff_eq]; omega)])
            all_goals (try rw [show ((pre.length : Int) == (rs.length : Int)) = true by (rw [beq_iff_eq]; omega)])
            all_goals
              refine ⟨by simp, .inl ⟨_, _, rfl, run_takeDeferred HKZ.out, ?_⟩⟩
              have ow5 := HOW5.out
              exact ⟨_, (by simp [results, Try.results3, go_sem, ow5] : (results Try.f3 _).run Try.prog _ = .ok (.bool true) _), rfl, HBZ.out⟩
          case stop =>
            rintro D cc b pre Z hD hne hmap ⟨rfl, k1, k2, k3⟩ hK
            have hpl : pre.length ≤ rs.length := by have e := congrArg List.length hmap; rw [List.length_map, List.length_take] at e; have := HRL.out; omega
            have m9 := k2.cell (i := 0) rfl
            have mW := (HOW.out.keep k1 hlw).cell (i := 0) rfl
            have m1 := (HO1.out.keep k1 hl1).cell (i := 0) rfl
            have o3z := HO2.out.keep k1 hl2
            have m3 := o3z.cell (i := 0) rfl
            have f3 := o3z.frozen 0
            have hbs := below_set (below_t hbw k1) (show w.heap.size ≤ w.heap.size + 1 by omega) 0 (.bool true)
            have hbz := hbs.grown (grownBy_putObj' (Z.setCell ⟨w.heap.size + 1, 0, none⟩ (.bool true)) D (.deferred none)) hbs.size (fun k e => by cases e; omega)
            have hKz : (Z.setCell ⟨w.heap.size + 1, 0, none⟩ (.bool true)).heap[D]? = some (.deferred (some [])) := (Below.heap_setCell Z ⟨w.heap.size + 1, 0, none⟩ (.bool true) D (show D ≠ w.heap.size + 1 by omega)).trans hK
            have ow5 := ((o3z.set (i := 0) (by simp) (.bool true)).grown (grownBy_putObj' _ D (.deferred none)) (show some (w.heap.size + 1) ≠ some D by intro e; cases e; omega)).cell (i := 0) rfl
            have HKZ := Lib.hid hKz
            have HBZ := Lib.hid hbz
            have HOW5 := Lib.hid ow5
            have hceq : ((pre.length : Int) == st + 1) = true := by simpa using k3
            have hmin : st + 1 ≤ (rs.length : Int) := by omega
            clear hK hKz hbz hbs ow5 hmap k1 k2 o3z
            refine wpIn_wide.2 ?_
            go_wp2_with fail
            all_goals (try rw [show (st + 1 == (rs.length : Int)) = true by (rw [beq_iff_eq]; omega)])
            all_goals (try rw [show ((rs.length : Int) == st + 1) = true by (rw [beq_iff_eq]; omega)])
            all_goals (try rw [show ((pre.length : Int) == (rs.length : Int)) = true by (rw [beq_iff_eq]; omega)])
            all_goals
              refine ⟨by simp, .inl ⟨_, _, rfl, run_takeDeferred HKZ.out, ?_⟩⟩
              have ow5 := HOW5.out
              exact ⟨_, (by simp [results, Try.results3, go_sem, ow5] : (results Try.f3 _).run Try.prog _ = .ok (.bool true) _), rfl, HBZ.out⟩
        exact AllReadyH.nil
      exact AllReadyH.nil
    exact AllReadyH.nil
end Go.Proofs.Ythkfjiioekhkhaa
