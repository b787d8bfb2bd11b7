/- The law EnvBinds, walked: it returns true at all arguments and writes nothing that was there. No condition. -/
import Derived.Test.YtolkgjbljdmadaaLaw11
namespace Go.Proofs.Ytolkgjbljdmadaa
open Go.RowKit Go.Shelf
set_option linter.unusedVariables false
set_option linter.unusedSimpArgs false

theorem keeps_env (B g : Nat) (cs : List BV) : Keeps fun w => EnvAt B w g cs := fun w w' h hb => h.keep hb
/-- what binding gives: the program's environment, the reference's list, or an error, according as the binding is right -/
def BindRet (ok : Bool) (ds : List BV) (w : World) (e : Ending) (w' : World) : Prop :=
  (if ok = true then ∃ g cs, e = .returned (.tuple #[.pointer (some ⟨g, 0, none⟩), .int .i64 0]) ∧ EnvAt w.heap.size w' g cs ∧ SameB ds cs else e = .returned (.tuple #[.pointer none, .int .i64 3])) ∧ Below w.heap.size w w'

theorem bind_ret {ds cs : List BV} (ok : Bool) (hok : ok = true ↔ RightP ds) (hs : SameB cs ds) {w w' : World} {e : Ending} (h : NewPost ds w e w') : BindRet ok cs w e w' := by
  obtain ⟨k, hb⟩ := h
  refine ⟨?_, hb⟩
  rcases k with ⟨hr, g, es, h1, h2, h3⟩ | ⟨hr, h1⟩
  · rw [if_pos (hok.2 hr)]
    exact ⟨g, es, h1, h2, hs.trans h3⟩
  · rw [if_neg (fun h => hr (hok.1 h))]
    exact h1

theorem bind_pair {bs cs : List BV} (hS : SameB bs cs) (hr : RightP bs) (hl : bs.length ≤ 12) (b : BV) (hx : b.name.size ≤ 9223372036854775807) : ∃ (ds : List BV), ds.length ≤ bs.length + 1 ∧
    (∀ B g W, EnvAt B W g cs → Ints W b.sp b.s → Ints W b.dp b.d → Calls Try.prog 26 #[.pointer (some ⟨g, 0, none⟩), .string b.name, .agg #[.slice b.sp b.s.length b.sc, .slice b.dp b.d.length b.dc]] W (BindRet (okB b) ds W)) ∧
    (∀ p c W, Binds W p bs → Ints W b.sp b.s → Ints W b.dp b.d → Calls Try.prog 31 #[.slice p bs.length c, .string b.name, .agg #[.slice b.sp b.s.length b.sc, .slice b.dp b.d.length b.dc]] W (BindsRet ds W)) := by
  have hlc := hS.1
  have hrc := right_same hS hr
  by_cases hE : ∃ k, k < bs.length ∧ (bth bs k).name = b.name
  · obtain ⟨k, hk, hkx⟩ := hE
    have hkc : k < cs.length := by omega
    have hcx : (bth cs k).name = b.name := (hS.2 k hk).1.symm.trans hkx
    refine ⟨bs.set k b, by simp, fun B g W h h1 h2 => (Bind_at hkc (by omega) b hcx W h h1 h2).mono fun e w' hp => bind_ret _ ?_ (hS.set hk ⟨rfl, rfl, rfl⟩) hp, fun p c W h h1 h2 => RBind_at hk (by omega) b hkx (fun j hj => ?_) p c W h h1 h2⟩
    · constructor
      · exact fun ho => right_set hkc hrc hcx ho
      · intro h
        cases ho : okB b with
        | true => rfl
        | false => exact absurd h (not_right_set hkc ho)
    · rw [← hkx]; exact (hr k hk).2 j hj
  · have hno : ∀ j, j < bs.length → (bth bs j).name ≠ b.name := fun j hj h => hE ⟨j, hj, h⟩
    have hnc : ∀ j, j < cs.length → (bth cs j).name ≠ b.name := fun j hj h => hE ⟨j, by omega, (hS.2 j (by omega)).1.trans h⟩
    refine ⟨bs ++ [b], by simp, fun B g W h h1 h2 => (Bind_new (by omega) b hnc hx W h h1 h2).mono fun e w' hp => bind_ret _ ?_ (hS.snoc ⟨rfl, rfl, rfl⟩) hp, fun p c W h h1 h2 => RBind_new (by omega) b hno hx p c W h h1 h2⟩
    constructor
    · exact fun ho => right_snoc hrc hnc ho
    · intro h
      cases ho : okB b with
      | true => rfl
      | false => exact absurd h (not_right_snoc ho)

set_option maxRecDepth 100000 in
set_option maxHeartbeats 4000000 in
theorem EnvBinds_main (p : Option Addr) (c : Nat) (bs : List BV) (b : BV) (w : World) (h : Binds w p bs) (hx : b.name.size ≤ 100) (h1 : Ints w b.sp b.s) (h2 : Ints w b.dp b.d) (hf : fewB bs 300 = true) (hr : RightP bs) (hfa : (decide (b.s.length ≤ 100) && decide ((b.d.length : Int) ≤ 300)) = true) :
    Calls Try.prog 6 #[.slice p bs.length c, .string b.name, .agg #[.slice b.sp b.s.length b.sc, .slice b.dp b.d.length b.dc]] w fun e w' => e = .returned (.bool true) ∧ Below w.heap.size w w' := by
  have HF := Lib.hid hf
  have HR := Lib.hid hr
  have HFA := Lib.hid hfa
  have hl := fewB_len hf
  have hnl : decide ((100 : Int) < (b.name.size : Int)) = false := decide_eq_false (by omega)
  have hb := below_alloc w (.cells #[.slice b.sp b.s.length b.sc, .slice b.dp b.d.length b.dc] 47)
  have A0 : (w.alloc (.cells #[.slice b.sp b.s.length b.sc, .slice b.dp b.d.length b.dc] 47)).cell? ⟨w.heap.size, 0, none⟩ = some (.slice b.sp b.s.length b.sc) := by simp [go_sem]
  have A1 : (w.alloc (.cells #[.slice b.sp b.s.length b.sc, .slice b.dp b.d.length b.dc] 47)).cell? ⟨w.heap.size, 1, none⟩ = some (.slice b.dp b.d.length b.dc) := by simp [go_sem]
  have KA := Lib.hid (keeps_cells w.heap.size (.slice b.sp b.s.length b.sc) (.slice b.dp b.d.length b.dc))
  have SA := Lib.hid (⟨by simp, A0, A1⟩ : (fun w' : World => w.heap.size < w'.heap.size ∧ w'.cell? ⟨w.heap.size, 0, none⟩ = some (.slice b.sp b.s.length b.sc) ∧ w'.cell? ⟨w.heap.size, 1, none⟩ = some (.slice b.dp b.d.length b.dc)) (w.alloc (.cells #[.slice b.sp b.s.length b.sc, .slice b.dp b.d.length b.dc] 47)))
  clear hf hr hfa A0 A1
  go_enter Try.func6, Try.ntmps6
  go_wp2_with fail
  refine (awake11 _).mono ?_
  rintro e1 w1 ⟨rfl, hb1⟩
  have SA := Lib.hid (KA.out _ _ SA.out hb1)
  have hb := below_t hb hb1
  clear hb1
  go_wp2_with fail
  refine (Few_is p c bs 300 true HF.out _ (h.keep hb)).mono ?_
  rintro e2 w2 ⟨rfl, hb1⟩
  have SA := Lib.hid (KA.out _ _ SA.out hb1)
  have hb := below_t hb hb1
  clear hb1
  go_wp2_with fail
  refine (Right_any true p c bs ⟨fun _ => HR.out, fun _ => rfl⟩ _ (h.keep hb)).mono ?_
  rintro e3 w3 ⟨rfl, hb1⟩
  have SA := Lib.hid (KA.out _ _ SA.out hb1)
  have hb := below_t hb hb1
  clear hb1
  have a0 := SA.out.2.1
  have a1 := SA.out.2.2
  go_wp2_with fail
  clear a0 a1
  refine (RefFew_is _ _ _ _ b.s b.d 300 true HFA.out _ (h1.keep hb) (h2.keep hb)).mono ?_
  rintro e4 w4 ⟨rfl, hb1⟩
  have SA := Lib.hid (KA.out _ _ SA.out hb1)
  have hb := below_t hb hb1
  clear hb1
  go_wp2_with fail
  refine (New_yes p c bs HR.out (by omega) _ (h.keep hb)).mono ?_
  rintro e5 w5 ⟨⟨g, cs, rfl, E, hS⟩, hb1⟩
  have SA := Lib.hid (KA.out _ _ SA.out hb1)
  have hb := below_t hb hb1
  clear hb1
  obtain ⟨ds, hdl, hB, hRB⟩ := bind_pair hS HR.out hl b (by omega)
  have HS := Lib.hid hS
  have HB := Lib.hid hB
  have HRB := Lib.hid hRB
  have hlc : cs.length ≤ 12 := by have := hS.1; omega
  clear hS hB hRB
  have a0 := SA.out.2.1
  have a1 := SA.out.2.2
  go_wp2_with fail
  clear a0 a1
  refine (HB.out _ _ _ E (h1.keep hb) (h2.keep hb)).mono ?_
  rintro e6 w6 ⟨hret, hb1⟩
  have SA := Lib.hid (KA.out _ _ SA.out hb1)
  have E := E.keep hb1
  have hb := below_t hb hb1
  clear hb1
  cases hok : okB b with
  | false =>
    rw [hok, if_neg (by decide)] at hret
    subst hret
    have HOK := Lib.hid hok
    clear hok
    go_wp2_with fail
    refine (List_any (by omega) _ E).mono ?_
    rintro e7 w7 ⟨⟨ql, cl, es, rfl, hL, hV, hSd⟩, hb1⟩
    have SA := Lib.hid (KA.out _ _ SA.out hb1)
    have hb := below_t hb hb1
    clear hb1
    have HSD := Lib.hid (hSd.symm.trans HS.out.symm)
    have hld : es.length = cs.length := hSd.1.symm
    have HBD := Lib.hid (binds_of hL hV.ints (by omega))
    rw [← hld]
    clear hSd hL hV hld
    go_wp2_with fail
    refine (BSame_yes ql p cl c es bs HSD.out _ rfl _ HBD.out (h.keep hb)).mono ?_
    rintro e8 w8 ⟨rfl, hb1⟩
    have SA := Lib.hid (KA.out _ _ SA.out hb1)
    have hb := below_t hb hb1
    clear hb1
    cases hn : nameB b.name with
    | false =>
      have HN := Lib.hid hn
      clear hn
      go_wp2_with fail
      refine (refName_is b.name false HN.out _ (by omega)).mono ?_
      rintro e9 w9 ⟨rfl, rfl⟩
      go_wp2_with fail
      go_ret
      exact ⟨rfl, hb⟩
    | true =>
      have HN := Lib.hid hn
      obtain ⟨z, hz⟩ : ∃ z, arrS b.s b.d = z := ⟨_, rfl⟩
      have hz0 : (z != 0) = true := by
        have := HOK.out
        unfold okB at this
        rw [hn, hz] at this
        simpa using this
      have HZ := Lib.hid hz
      clear hn hz
      go_wp2_with fail
      refine (refName_is b.name true HN.out _ (by omega)).mono ?_
      rintro e9 w9 ⟨rfl, rfl⟩
      have a0 := SA.out.2.1
      have a1 := SA.out.2.2
      go_wp2_with fail
      clear a0 a1
      refine (RefACheck_is _ _ _ _ b.s b.d z HZ.out _ (h1.keep hb) (h2.keep hb)).mono ?_
      rintro e10 w10 ⟨rfl, hb1⟩
      have hb := below_t hb hb1
      clear hb1
      go_wp2_with fail
      go_ret
      exact ⟨rfl, hb⟩
  | true =>
    rw [hok, if_pos rfl] at hret
    obtain ⟨g2, fs, rfl, E2, hS2⟩ := hret
    have HS2 := Lib.hid hS2
    have hn : nameB b.name = true := by unfold okB at hok; rw [Bool.and_eq_true] at hok; exact hok.1
    have hz : arrS b.s b.d = 0 := okB_arr hok
    have hlf : fs.length ≤ 13 := by have := hS2.1; omega
    have HN := Lib.hid hn
    have HZ := Lib.hid hz
    clear hok hS2 hn hz
    go_wp2_with fail
    refine (List_any (by omega) _ E).mono ?_
    rintro e7 w7 ⟨⟨ql, cl, es, rfl, hL, hV, hSd⟩, hb1⟩
    have SA := Lib.hid (KA.out _ _ SA.out hb1)
    have E2 := E2.keep hb1
    have hb := below_t hb hb1
    clear hb1
    have HSD := Lib.hid (hSd.symm.trans HS.out.symm)
    have hld : es.length = cs.length := hSd.1.symm
    have HBD := Lib.hid (binds_of hL hV.ints (by omega))
    rw [← hld]
    clear hSd hL hV hld
    go_wp2_with fail
    refine (BSame_yes ql p cl c es bs HSD.out _ rfl _ HBD.out (h.keep hb)).mono ?_
    rintro e8 w8 ⟨rfl, hb1⟩
    have SA := Lib.hid (KA.out _ _ SA.out hb1)
    have E2 := E2.keep hb1
    have hb := below_t hb hb1
    clear hb1
    clear HSD HBD
    go_wp2_with fail
    refine (refName_is b.name true HN.out _ (by omega)).mono ?_
    rintro e9 w9 ⟨rfl, rfl⟩
    have a0 := SA.out.2.1
    have a1 := SA.out.2.2
    go_wp2_with fail
    clear a0 a1
    refine (RefACheck_is _ _ _ _ b.s b.d 0 HZ.out _ (h1.keep hb) (h2.keep hb)).mono ?_
    rintro e10 w10 ⟨rfl, hb1⟩
    have SA := Lib.hid (KA.out _ _ SA.out hb1)
    have E2 := E2.keep hb1
    have hb := below_t hb hb1
    clear hb1
    have hlf' : fs.length ≤ 1000000 := by omega
    have hKS : Keeps (fun w' => (w.heap.size < w'.heap.size ∧ w'.cell? ⟨w.heap.size, 0, none⟩ = some (.slice b.sp b.s.length b.sc) ∧ w'.cell? ⟨w.heap.size, 1, none⟩ = some (.slice b.dp b.d.length b.dc)) ∧ EnvAt w5.heap.size w' g2 fs ∧ Below w.heap.size w w') := KA.out.and ((keeps_env _ _ _).and (keeps_below _))
    have hS := hKS _ _ ⟨SA.out, E2, hb⟩ (Below.refl _ _)
    clear SA E2 KA
    go_wp2_with fail
    refine wp_region_noPanic ?_
    refine wp_region_held_drew (S := (fun w' => (w.heap.size < w'.heap.size ∧ w'.cell? ⟨w.heap.size, 0, none⟩ = some (.slice b.sp b.s.length b.sc) ∧ w'.cell? ⟨w.heap.size, 1, none⟩ = some (.slice b.dp b.d.length b.dc)) ∧ EnvAt w5.heap.size w' g2 fs ∧ Below w.heap.size w w')) (by kernel_rfl) ?_ (fun hHeld => ?_)
    · (try dsimp only); exact hKS _ _ (by first | exact hHeld | exact hS) (by first | assumption | (go_grown; done) | (refine from_drew ?_; go_grown; done))
    refine takeH 0 (some 71) (v := ?_) rfl rfl (by kernel_rfl) (by kernel_rfl) (by kernel_rfl) (by rfl) ?_ (by exact hHeld) ?_
    rotate_left
    · intro w hSw; (try dsimp only at hSw); go_simp; try (with_reducible rfl)
    try simp only [Act.put, List.setIfInBounds_toArray, List.set_cons_zero, List.set_cons_succ]
    refine takeH 1 (some 72) (v := ?_) rfl rfl (by kernel_rfl) (by kernel_rfl) (by kernel_rfl) (by rfl) ?_ (by exact hHeld) ?_
    rotate_left
    · intro w hSw; (try dsimp only at hSw); go_simp; try (with_reducible rfl)
    try simp only [Act.put, List.setIfInBounds_toArray, List.set_cons_zero, List.set_cons_succ]
    refine takeH 2 (some 73) (v := ?_) rfl rfl (by kernel_rfl) (by kernel_rfl) (by kernel_rfl) (by rfl) ?_ (by exact hHeld) ?_
    rotate_left
    · intro w hSw; (try dsimp only at hSw); go_simp; try (with_reducible rfl)
    try simp only [Act.put, List.setIfInBounds_toArray, List.set_cons_zero, List.set_cons_succ]
    refine takeH 3 (some 74) (v := ?_) rfl rfl (by kernel_rfl) (by kernel_rfl) (by kernel_rfl) (by rfl) ?_ (by exact hHeld) ?_
    rotate_left
    · intro w hSw; (try dsimp only at hSw); go_simp; try (with_reducible rfl)
    try simp only [Act.put, List.setIfInBounds_toArray, List.set_cons_zero, List.set_cons_succ]
    refine takeH 4 (some 75) (v := ?_) rfl rfl (by kernel_rfl) (by kernel_rfl) (by kernel_rfl) (by rfl) ?_ (by exact hHeld) ?_
    rotate_left
    · intro w hSw; (try dsimp only at hSw); go_simp; try (with_reducible rfl)
    try simp only [Act.put, List.setIfInBounds_toArray, List.set_cons_zero, List.set_cons_succ]
    refine takeH 5 (some 76) (v := ?_) rfl rfl (by kernel_rfl) (by kernel_rfl) (by kernel_rfl) (by rfl) ?_ (by exact hHeld) ?_
    rotate_left
    · intro w hSw; (try dsimp only at hSw); go_simp; try (with_reducible rfl)
    try simp only [Act.put, List.setIfInBounds_toArray, List.set_cons_zero, List.set_cons_succ]
    refine takeH 6 (some 77) (v := ?_) rfl rfl (by kernel_rfl) (by kernel_rfl) (by kernel_rfl) (by rfl) ?_ (by exact hHeld) ?_
    rotate_left
    · intro w hSw; (try dsimp only at hSw); go_simp; try (with_reducible rfl)
    try simp only [Act.put, List.setIfInBounds_toArray, List.set_cons_zero, List.set_cons_succ]
    refine takeH 7 (some 78) (v := ?_) rfl rfl (by kernel_rfl) (by kernel_rfl) (by kernel_rfl) (by rfl) ?_ (by exact hHeld) ?_
    rotate_left
    · intro w hSw; (try dsimp only at hSw); go_simp; try (with_reducible rfl)
    try simp only [Act.put, List.setIfInBounds_toArray, List.set_cons_zero, List.set_cons_succ]
    refine takeH 9 (some 80) (v := ?_) rfl rfl (by kernel_rfl) (by kernel_rfl) (by kernel_rfl) (by rfl) ?_ (by exact hHeld) ?_
    rotate_left
    · intro w hSw; (try dsimp only at hSw); go_simp; try (with_reducible rfl)
    try simp only [Act.put, List.setIfInBounds_toArray, List.set_cons_zero, List.set_cons_succ]
    refine takeH 10 (some 81) (v := ?_) rfl rfl (by kernel_rfl) (by kernel_rfl) (by kernel_rfl) (by rfl) ?_ (by exact hHeld) ?_
    rotate_left
    · intro w hSw; (try dsimp only at hSw); go_simp; try (with_reducible rfl)
    try simp only [Act.put, List.setIfInBounds_toArray, List.set_cons_zero, List.set_cons_succ]
    refine takeH 11 (some 82) (v := ?_) rfl rfl (by kernel_rfl) (by kernel_rfl) (by kernel_rfl) (by rfl) ?_ (by exact hHeld) ?_
    rotate_left
    · intro w hSw; (try dsimp only at hSw); go_simp; try (with_reducible rfl)
    try simp only [Act.put, List.setIfInBounds_toArray, List.set_cons_zero, List.set_cons_succ]
    refine wpAnyH_ready (rs := [8]) (by kernel_rfl) (by simp) ?_
    refine stepH 8 rfl (by rfl) (fun K hK => ?_) ?_
    · go_simp
      ((with_reducible refine (List_any (B := w5.heap.size) hlf' _ ?_).mono ?_); (exact hHeld.2.1); rintro e11 w11 ⟨⟨q3, c3, es3, rfl, hL3, hV3, hS3⟩, hb11⟩; have HL3 := Lib.hid hS3; have hl3 := Lib.hid (hS3.1); have HB3 := Lib.hid (binds_of hL3 hV3.ints (by have := hS3.1; omega)); clear hL3 hV3 hS3)
      refine hK.out _ _ ?_ (fun hNew => ?_)
      · (try dsimp only); exact hKS _ _ (by first | exact hHeld | exact hS) (by first | assumption | (go_grown; done) | (refine from_drew ?_; go_grown; done))
      clear hK K hHeld
      have hHeld := hNew
      clear hNew
      try dsimp only at hHeld
      try simp only [Act.put, List.setIfInBounds_toArray, List.set_cons_zero, List.set_cons_succ]
      refine wpAnyH_ready (rs := [12]) (by kernel_rfl) (by simp) ?_
      refine stepH 12 rfl (by rfl) (fun K hK => ?_) ?_
      · go_simp
        ((with_reducible refine (HRB.out _ _ _ ?_ ?_ ?_).mono ?_); (exact h.keep hHeld.2.2); (exact h1.keep hHeld.2.2); (exact h2.keep hHeld.2.2); rintro e12 w12 ⟨⟨q4, c4, rfl, hB4⟩, hb12⟩)
        refine hK.out _ _ ?_ (fun hNew => ?_)
        · (try dsimp only); exact hKS _ _ (by first | exact hHeld | exact hS) (by first | assumption | (go_grown; done) | (refine from_drew ?_; go_grown; done))
        clear hK K hHeld
        have hHeld := hNew
        clear hNew
        try dsimp only at hHeld
        try simp only [Act.put, List.setIfInBounds_toArray, List.set_cons_zero, List.set_cons_succ]
        refine wpAnyH_ready (rs := [13]) (by kernel_rfl) (by simp) ?_
        refine stepH 13 rfl (by rfl) (fun K hK => ?_) ?_
        · go_simp
          ((rw [hl3.out]; with_reducible refine (BSame_yes q3 q4 c3 c4 es3 ds (HL3.out.symm.trans HS2.out.symm) _ rfl _ ?_ hB4).mono ?_); (exact HB3.out.keep hb12); rintro e13 w13 ⟨rfl, hb13⟩)
          refine hK.out _ _ ?_ (fun hNew => ?_)
          · (try dsimp only); exact hKS _ _ (by first | exact hHeld | exact hS) (by first | assumption | (go_grown; done) | (refine from_drew ?_; go_grown; done))
          clear hK K hHeld
          have hHeld := hNew
          clear hNew
          try dsimp only at hHeld
          try simp only [Act.put, List.setIfInBounds_toArray, List.set_cons_zero, List.set_cons_succ]
          refine takeH 14 (some 85) (v := ?_) rfl rfl (by kernel_rfl) (by kernel_rfl) (by kernel_rfl) (by rfl) ?_ (by exact hHeld) ?_
          rotate_left
          · intro w hSw; (try dsimp only at hSw); go_simp; try (with_reducible rfl)
          try simp only [Act.put, List.setIfInBounds_toArray, List.set_cons_zero, List.set_cons_succ]
          refine takeH 15 (some 6) (v := ?_) rfl rfl (by kernel_rfl) (by kernel_rfl) (by kernel_rfl) (by rfl) ?_ (by exact hHeld) ?_
          rotate_left
          · intro w hSw; (try dsimp only at hSw); go_simp; try (with_reducible rfl)
          try simp only [Act.put, List.setIfInBounds_toArray, List.set_cons_zero, List.set_cons_succ]
          refine wpAnyH_done (by kernel_rfl) ?_ _
          refine NoPanic.normal ?_
          have hbz := hHeld.2.2
          go_wp2_with fail
          go_ret
          exact ⟨rfl, hbz⟩
        exact AllReadyH.nil
      exact AllReadyH.nil
    exact AllReadyH.nil

set_option maxRecDepth 100000 in
set_option maxHeartbeats 4000000 in
theorem EnvBinds_few (p : Option Addr) (c : Nat) (bs : List BV) (b : BV) (w : World) (h : Binds w p bs) (h1 : Ints w b.sp b.s) (h2 : Ints w b.dp b.d) (hf : fewB bs 300 = false) :
    Calls Try.prog 6 #[.slice p bs.length c, .string b.name, .agg #[.slice b.sp b.s.length b.sc, .slice b.dp b.d.length b.dc]] w fun e w' => e = .returned (.bool true) ∧ Below w.heap.size w w' := by
  have HF := Lib.hid hf
  clear hf
  have hb := below_alloc w (.cells #[.slice b.sp b.s.length b.sc, .slice b.dp b.d.length b.dc] 47)
  have A0 : (w.alloc (.cells #[.slice b.sp b.s.length b.sc, .slice b.dp b.d.length b.dc] 47)).cell? ⟨w.heap.size, 0, none⟩ = some (.slice b.sp b.s.length b.sc) := by simp [go_sem]
  have A1 : (w.alloc (.cells #[.slice b.sp b.s.length b.sc, .slice b.dp b.d.length b.dc] 47)).cell? ⟨w.heap.size, 1, none⟩ = some (.slice b.dp b.d.length b.dc) := by simp [go_sem]
  have KA := Lib.hid (keeps_cells w.heap.size (.slice b.sp b.s.length b.sc) (.slice b.dp b.d.length b.dc))
  have SA := Lib.hid (⟨by simp, A0, A1⟩ : (fun w' : World => w.heap.size < w'.heap.size ∧ w'.cell? ⟨w.heap.size, 0, none⟩ = some (.slice b.sp b.s.length b.sc) ∧ w'.cell? ⟨w.heap.size, 1, none⟩ = some (.slice b.dp b.d.length b.dc)) (w.alloc (.cells #[.slice b.sp b.s.length b.sc, .slice b.dp b.d.length b.dc] 47)))
  clear A0 A1
  go_enter Try.func6, Try.ntmps6
  go_wp2_with fail
  refine (awake11 _).mono ?_
  rintro e1 w1 ⟨rfl, hb1⟩
  have SA := Lib.hid (KA.out _ _ SA.out hb1)
  have hb := below_t hb hb1
  clear hb1
  go_wp2_with fail
  refine (Few_is p c bs 300 false HF.out _ (h.keep hb)).mono ?_
  rintro e2 w2 ⟨rfl, hb1⟩
  have SA := Lib.hid (KA.out _ _ SA.out hb1)
  have hb := below_t hb hb1
  clear hb1
  go_wp2_with fail
  refine (awake11 _).mono ?_
  rintro e9 w9 ⟨rfl, hb1⟩
  have hb := below_t hb hb1
  clear hb1
  go_wp2_with fail
  go_ret
  exact ⟨rfl, hb⟩

set_option maxRecDepth 100000 in
set_option maxHeartbeats 4000000 in
theorem EnvBinds_bad (p : Option Addr) (c : Nat) (bs : List BV) (b : BV) (w : World) (h : Binds w p bs) (h1 : Ints w b.sp b.s) (h2 : Ints w b.dp b.d) (hf : fewB bs 300 = true) (hr : ¬ RightP bs) :
    Calls Try.prog 6 #[.slice p bs.length c, .string b.name, .agg #[.slice b.sp b.s.length b.sc, .slice b.dp b.d.length b.dc]] w fun e w' => e = .returned (.bool true) ∧ Below w.heap.size w w' := by
  have HF := Lib.hid hf
  clear hf
  have HR := Lib.hid hr
  clear hr
  have hb := below_alloc w (.cells #[.slice b.sp b.s.length b.sc, .slice b.dp b.d.length b.dc] 47)
  have A0 : (w.alloc (.cells #[.slice b.sp b.s.length b.sc, .slice b.dp b.d.length b.dc] 47)).cell? ⟨w.heap.size, 0, none⟩ = some (.slice b.sp b.s.length b.sc) := by simp [go_sem]
  have A1 : (w.alloc (.cells #[.slice b.sp b.s.length b.sc, .slice b.dp b.d.length b.dc] 47)).cell? ⟨w.heap.size, 1, none⟩ = some (.slice b.dp b.d.length b.dc) := by simp [go_sem]
  have KA := Lib.hid (keeps_cells w.heap.size (.slice b.sp b.s.length b.sc) (.slice b.dp b.d.length b.dc))
  have SA := Lib.hid (⟨by simp, A0, A1⟩ : (fun w' : World => w.heap.size < w'.heap.size ∧ w'.cell? ⟨w.heap.size, 0, none⟩ = some (.slice b.sp b.s.length b.sc) ∧ w'.cell? ⟨w.heap.size, 1, none⟩ = some (.slice b.dp b.d.length b.dc)) (w.alloc (.cells #[.slice b.sp b.s.length b.sc, .slice b.dp b.d.length b.dc] 47)))
  clear A0 A1
  go_enter Try.func6, Try.ntmps6
  go_wp2_with fail
  refine (awake11 _).mono ?_
  rintro e1 w1 ⟨rfl, hb1⟩
  have SA := Lib.hid (KA.out _ _ SA.out hb1)
  have hb := below_t hb hb1
  clear hb1
  go_wp2_with fail
  refine (Few_is p c bs 300 true HF.out _ (h.keep hb)).mono ?_
  rintro e2 w2 ⟨rfl, hb1⟩
  have SA := Lib.hid (KA.out _ _ SA.out hb1)
  have hb := below_t hb hb1
  clear hb1
  go_wp2_with fail
  refine (Right_any false p c bs ⟨fun h => (by cases h), fun h => absurd h HR.out⟩ _ (h.keep hb)).mono ?_
  rintro e3 w3 ⟨rfl, hb1⟩
  have SA := Lib.hid (KA.out _ _ SA.out hb1)
  have hb := below_t hb hb1
  clear hb1
  go_wp2_with fail
  refine (awake11 _).mono ?_
  rintro e9 w9 ⟨rfl, hb1⟩
  have hb := below_t hb hb1
  clear hb1
  go_wp2_with fail
  go_ret
  exact ⟨rfl, hb⟩

set_option maxRecDepth 100000 in
set_option maxHeartbeats 4000000 in
theorem EnvBinds_arr (p : Option Addr) (c : Nat) (bs : List BV) (b : BV) (w : World) (h : Binds w p bs) (h1 : Ints w b.sp b.s) (h2 : Ints w b.dp b.d) (hf : fewB bs 300 = true) (hr : RightP bs) (hfa : (decide (b.s.length ≤ 100) && decide ((b.d.length : Int) ≤ 300)) = false) :
    Calls Try.prog 6 #[.slice p bs.length c, .string b.name, .agg #[.slice b.sp b.s.length b.sc, .slice b.dp b.d.length b.dc]] w fun e w' => e = .returned (.bool true) ∧ Below w.heap.size w w' := by
  have HF := Lib.hid hf
  clear hf
  have HR := Lib.hid hr
  clear hr
  have HFA := Lib.hid hfa
  clear hfa
  have hb := below_alloc w (.cells #[.slice b.sp b.s.length b.sc, .slice b.dp b.d.length b.dc] 47)
  have A0 : (w.alloc (.cells #[.slice b.sp b.s.length b.sc, .slice b.dp b.d.length b.dc] 47)).cell? ⟨w.heap.size, 0, none⟩ = some (.slice b.sp b.s.length b.sc) := by simp [go_sem]
  have A1 : (w.alloc (.cells #[.slice b.sp b.s.length b.sc, .slice b.dp b.d.length b.dc] 47)).cell? ⟨w.heap.size, 1, none⟩ = some (.slice b.dp b.d.length b.dc) := by simp [go_sem]
  have KA := Lib.hid (keeps_cells w.heap.size (.slice b.sp b.s.length b.sc) (.slice b.dp b.d.length b.dc))
  have SA := Lib.hid (⟨by simp, A0, A1⟩ : (fun w' : World => w.heap.size < w'.heap.size ∧ w'.cell? ⟨w.heap.size, 0, none⟩ = some (.slice b.sp b.s.length b.sc) ∧ w'.cell? ⟨w.heap.size, 1, none⟩ = some (.slice b.dp b.d.length b.dc)) (w.alloc (.cells #[.slice b.sp b.s.length b.sc, .slice b.dp b.d.length b.dc] 47)))
  clear A0 A1
  go_enter Try.func6, Try.ntmps6
  go_wp2_with fail
  refine (awake11 _).mono ?_
  rintro e1 w1 ⟨rfl, hb1⟩
  have SA := Lib.hid (KA.out _ _ SA.out hb1)
  have hb := below_t hb hb1
  clear hb1
  go_wp2_with fail
  refine (Few_is p c bs 300 true HF.out _ (h.keep hb)).mono ?_
  rintro e2 w2 ⟨rfl, hb1⟩
  have SA := Lib.hid (KA.out _ _ SA.out hb1)
  have hb := below_t hb hb1
  clear hb1
  go_wp2_with fail
  refine (Right_any true p c bs ⟨fun _ => HR.out, fun _ => rfl⟩ _ (h.keep hb)).mono ?_
  rintro e3 w3 ⟨rfl, hb1⟩
  have SA := Lib.hid (KA.out _ _ SA.out hb1)
  have hb := below_t hb hb1
  clear hb1
  have a0 := SA.out.2.1
  have a1 := SA.out.2.2
  go_wp2_with fail
  clear a0 a1
  refine (RefFew_is _ _ _ _ b.s b.d 300 false HFA.out _ (h1.keep hb) (h2.keep hb)).mono ?_
  rintro e4 w4 ⟨rfl, hb1⟩
  have hb := below_t hb hb1
  clear hb1
  go_wp2_with fail
  refine (awake11 _).mono ?_
  rintro e9 w9 ⟨rfl, hb1⟩
  have hb := below_t hb hb1
  clear hb1
  go_wp2_with fail
  go_ret
  exact ⟨rfl, hb⟩

set_option maxRecDepth 100000 in
set_option maxHeartbeats 4000000 in
theorem EnvBinds_name (p : Option Addr) (c : Nat) (bs : List BV) (b : BV) (w : World) (h : Binds w p bs) (h1 : Ints w b.sp b.s) (h2 : Ints w b.dp b.d) (hf : fewB bs 300 = true) (hr : RightP bs) (hfa : (decide (b.s.length ≤ 100) && decide ((b.d.length : Int) ≤ 300)) = true) (hx : 100 < b.name.size) :
    Calls Try.prog 6 #[.slice p bs.length c, .string b.name, .agg #[.slice b.sp b.s.length b.sc, .slice b.dp b.d.length b.dc]] w fun e w' => e = .returned (.bool true) ∧ Below w.heap.size w w' := by
  have HF := Lib.hid hf
  clear hf
  have HR := Lib.hid hr
  clear hr
  have HFA := Lib.hid hfa
  clear hfa
  have hnl : decide ((100 : Int) < (b.name.size : Int)) = true := decide_eq_true (by omega)
  have hb := below_alloc w (.cells #[.slice b.sp b.s.length b.sc, .slice b.dp b.d.length b.dc] 47)
  have A0 : (w.alloc (.cells #[.slice b.sp b.s.length b.sc, .slice b.dp b.d.length b.dc] 47)).cell? ⟨w.heap.size, 0, none⟩ = some (.slice b.sp b.s.length b.sc) := by simp [go_sem]
  have A1 : (w.alloc (.cells #[.slice b.sp b.s.length b.sc, .slice b.dp b.d.length b.dc] 47)).cell? ⟨w.heap.size, 1, none⟩ = some (.slice b.dp b.d.length b.dc) := by simp [go_sem]
  have KA := Lib.hid (keeps_cells w.heap.size (.slice b.sp b.s.length b.sc) (.slice b.dp b.d.length b.dc))
  have SA := Lib.hid (⟨by simp, A0, A1⟩ : (fun w' : World => w.heap.size < w'.heap.size ∧ w'.cell? ⟨w.heap.size, 0, none⟩ = some (.slice b.sp b.s.length b.sc) ∧ w'.cell? ⟨w.heap.size, 1, none⟩ = some (.slice b.dp b.d.length b.dc)) (w.alloc (.cells #[.slice b.sp b.s.length b.sc, .slice b.dp b.d.length b.dc] 47)))
  clear A0 A1
  go_enter Try.func6, Try.ntmps6
  go_wp2_with fail
  refine (awake11 _).mono ?_
  rintro e1 w1 ⟨rfl, hb1⟩
  have SA := Lib.hid (KA.out _ _ SA.out hb1)
  have hb := below_t hb hb1
  clear hb1
  go_wp2_with fail
  refine (Few_is p c bs 300 true HF.out _ (h.keep hb)).mono ?_
  rintro e2 w2 ⟨rfl, hb1⟩
  have SA := Lib.hid (KA.out _ _ SA.out hb1)
  have hb := below_t hb hb1
  clear hb1
  go_wp2_with fail
  refine (Right_any true p c bs ⟨fun _ => HR.out, fun _ => rfl⟩ _ (h.keep hb)).mono ?_
  rintro e3 w3 ⟨rfl, hb1⟩
  have SA := Lib.hid (KA.out _ _ SA.out hb1)
  have hb := below_t hb hb1
  clear hb1
  have a0 := SA.out.2.1
  have a1 := SA.out.2.2
  go_wp2_with fail
  clear a0 a1
  refine (RefFew_is _ _ _ _ b.s b.d 300 true HFA.out _ (h1.keep hb) (h2.keep hb)).mono ?_
  rintro e4 w4 ⟨rfl, hb1⟩
  have hb := below_t hb hb1
  clear hb1
  go_wp2_with fail
  refine (awake11 _).mono ?_
  rintro e9 w9 ⟨rfl, hb1⟩
  have hb := below_t hb hb1
  clear hb1
  go_wp2_with fail
  go_ret
  exact ⟨rfl, hb⟩

theorem EnvBinds_law (p : Option Addr) (c : Nat) (bs : List BV) (x : ByteArray) (ps : Option Addr) (cs : Nat) (s : List Int) (pd : Option Addr) (cd : Nat) (d : List Int) (w : World) (h : Binds w p bs) (_hx : x.size ≤ 9223372036854775807) (h1 : Ints w ps s) (h2 : Ints w pd d) :
    Calls Try.prog 6 #[.slice p bs.length c, .string x, .agg #[.slice ps s.length cs, .slice pd d.length cd]] w fun e w' => e = .returned (.bool true) ∧ Below w.heap.size w w' := by
  cases hf : fewB bs 300 with
  | false => exact EnvBinds_few p c bs ⟨x, ps, cs, s, pd, cd, d⟩ w h h1 h2 hf
  | true =>
    by_cases hr : RightP bs
    · cases hfa : (decide (s.length ≤ 100) && decide ((d.length : Int) ≤ 300)) with
      | false => exact EnvBinds_arr p c bs ⟨x, ps, cs, s, pd, cd, d⟩ w h h1 h2 hf hr hfa
      | true =>
        by_cases hxl : 100 < x.size
        · exact EnvBinds_name p c bs ⟨x, ps, cs, s, pd, cd, d⟩ w h h1 h2 hf hr hfa hxl
        · exact EnvBinds_main p c bs ⟨x, ps, cs, s, pd, cd, d⟩ w h (by show x.size ≤ 100; omega) h1 h2 hf hr hfa
    · exact EnvBinds_bad p c bs ⟨x, ps, cs, s, pd, cd, d⟩ w h h1 h2 hf hr
end Go.Proofs.Ytolkgjbljdmadaa
