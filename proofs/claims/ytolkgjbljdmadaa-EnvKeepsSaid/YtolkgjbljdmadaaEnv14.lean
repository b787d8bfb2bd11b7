/- The reference's Copy and Small of layer 11. No condition beyond what each says. -/
import Derived.Test.YtolkgjbljdmadaaEnv9
import Derived.Test.YtolkgjbljdmadaaRef05b
import Derived.Test.YtolkgjbljdmadaaRef05c
namespace Go.Proofs.Ytolkgjbljdmadaa
open Go.RowKit Go.Shelf
set_option linter.unusedVariables false
set_option linter.unusedSimpArgs false

def CopyB (bs : List BV) (w : World) (e : Ending) (w' : World) : Prop := (∃ q c ds, e = .returned (.slice q bs.length c) ∧ New w.heap.size w' q 62 (rowsB ds) ∧ Vals w.heap.size w' ds ∧ SameB bs ds) ∧ Below w.heap.size w w'

set_option maxRecDepth 100000 in
set_option maxHeartbeats 4000000 in
theorem RCopy_any (p : Option Addr) (c : Nat) (bs : List BV) (hl : bs.length ≤ 1000000) (hs : ∀ b ∈ bs, b.s.length ≤ 1000000 ∧ b.d.length ≤ 1000000) (w : World) (h : Binds w p bs) :
    Calls Try.prog 39 #[.slice p bs.length c] w (CopyB bs w) := by
  have HSM := Lib.hid hs
  clear hs
  obtain ⟨i0, hi, hz0, hz1, hz2⟩ := info_parts info_bind
  go_enter Try.func39, Try.ntmps39
  go_wp2_with fail
  go_loopw [3, 4] (fun o i wr => ∃ (k : Nat) (ds : List BV), k ≤ bs.length ∧ i = .int .i64 k ∧ Hid (OwnBs w.heap.size wr k o bs ds) ∧ Below w.heap.size w wr) (fun _ i _ => bs.length - (intOf i).toNat)
  case atStart => exact ⟨0, [], Nat.zero_le _, rfl, ⟨World.ownsRow_nil _ _ _ _, fun b hb => (by cases hb), rfl, fun j hj => by omega⟩, Below.refl _ _⟩
  case round =>
    obtain ⟨k, ds, hk, rfl, HS, hbw⟩ := hrel
    by_cases hlt : k < bs.length
    · obtain ⟨gp, off, rfl, hg0, c0, c1, c2⟩ := h.at hlt
      obtain ⟨i1, i2, i3⟩ := (h.keep hbw).vals _ (bth_mem hlt)
      obtain ⟨s1, s2⟩ := HSM.out _ (bth_mem hlt)
      have hki : (k : Int) < (bs.length : Int) := by omega
      have hkp : (0 : Int) ≤ (k : Int) := by omega
      obtain ⟨b, hbb⟩ : ∃ b, bth bs k = b := ⟨_, rfl⟩
      rw [hbb] at c0 c1 c2 i1 i2 i3 s1 s2
      have HBE := Lib.hid hbb
      have hle3 : w.heap.size ≤ wr.drew.heap.size := hbw.size
      have hKS : Keeps (fun w' => (gp < w'.heap.size ∧ w'.cell? ⟨gp, off + k * 3, none⟩ = some (.string b.name)) ∧ (gp < w'.heap.size ∧ w'.cell? ⟨gp, off + k * 3 + 1, none⟩ = some (.slice b.sp b.s.length b.sc)) ∧ (gp < w'.heap.size ∧ w'.cell? ⟨gp, off + k * 3 + 2, none⟩ = some (.slice b.dp b.d.length b.dc))) := (keeps_cell _ _ _).and ((keeps_cell _ _ _).and (keeps_cell _ _ _))
      have hKm : ∀ z : World, Below w.heap.size w z → (fun w' => (gp < w'.heap.size ∧ w'.cell? ⟨gp, off + k * 3, none⟩ = some (.string b.name)) ∧ (gp < w'.heap.size ∧ w'.cell? ⟨gp, off + k * 3 + 1, none⟩ = some (.slice b.sp b.s.length b.sc)) ∧ (gp < w'.heap.size ∧ w'.cell? ⟨gp, off + k * 3 + 2, none⟩ = some (.slice b.dp b.d.length b.dc))) z := fun z hz =>
        have hgz := Nat.lt_of_lt_of_le hg0 hz.size
        ⟨⟨hgz, (hz.cell (p := ⟨gp, off + k * 3, none⟩) hg0).trans c0⟩, ⟨hgz, (hz.cell (p := ⟨gp, off + k * 3 + 1, none⟩) hg0).trans c1⟩, ⟨hgz, (hz.cell (p := ⟨gp, off + k * 3 + 2, none⟩) hg0).trans c2⟩⟩
      have hS := hKm wr hbw
      clear hbb c0 c1 c2
      go_wp2_with fail
      refine wp_region_noPanic ?_
      refine wp_region_held_drew (S := (fun w' => (gp < w'.heap.size ∧ w'.cell? ⟨gp, off + k * 3, none⟩ = some (.string b.name)) ∧ (gp < w'.heap.size ∧ w'.cell? ⟨gp, off + k * 3 + 1, none⟩ = some (.slice b.sp b.s.length b.sc)) ∧ (gp < w'.heap.size ∧ w'.cell? ⟨gp, off + k * 3 + 2, none⟩ = some (.slice b.dp b.d.length b.dc)))) (by kernel_rfl) ?_ (fun hHeld => ?_)
      · (try dsimp only); first | exact hS5 | exact hKS _ _ (by first | exact hHeld | exact hS) (by first | assumption | (go_grown; done) | (refine from_drew ?_; go_grown; done))
      refine takeH 0 (some 11) (v := ?_) rfl rfl (by kernel_rfl) (by kernel_rfl) (by kernel_rfl) (by rfl) ?_ (by exact hHeld) ?_
      rotate_left
      · intro w hSw; (try dsimp only at hSw); go_simp; try (with_reducible rfl)
      try simp only [Act.put, List.setIfInBounds_toArray, List.set_cons_zero, List.set_cons_succ]
      refine takeH 1 (some 12) (v := ?_) rfl rfl (by kernel_rfl) (by kernel_rfl) (by kernel_rfl) (by rfl) ?_ (by exact hHeld) ?_
      rotate_left
      · intro w hSw; (try dsimp only at hSw); go_simp; try (with_reducible rfl)
      try simp only [Act.put, List.setIfInBounds_toArray, List.set_cons_zero, List.set_cons_succ]
      refine takeH 2 (some 13) (v := ?_) rfl rfl (by kernel_rfl) (by kernel_rfl) (by kernel_rfl) (by rfl) ?_ (by exact hHeld) ?_
      rotate_left
      · intro w hSw; (try dsimp only at hSw); go_simp; try (with_reducible rfl)
      try simp only [Act.put, List.setIfInBounds_toArray, List.set_cons_zero, List.set_cons_succ]
      refine takeH 3 (some 14) (v := ?_) rfl rfl (by kernel_rfl) (by kernel_rfl) (by kernel_rfl) (by rfl) ?_ (by exact hHeld) ?_
      rotate_left
      · intro w hSw; (try dsimp only at hSw); go_simp; try (with_reducible rfl)
      try simp only [Act.put, List.setIfInBounds_toArray, List.set_cons_zero, List.set_cons_succ]
      refine takeH 4 (some 15) (v := ?_) rfl rfl (by kernel_rfl) (by kernel_rfl) (by kernel_rfl) (by rfl) ?_ (by exact hHeld) ?_
      rotate_left
      · intro w hSw; (try dsimp only at hSw); go_simp; try (with_reducible rfl)
      try simp only [Act.put, List.setIfInBounds_toArray, List.set_cons_zero, List.set_cons_succ]
      refine takeH 5 (some 16) (v := ?_) rfl rfl (by kernel_rfl) (by kernel_rfl) (by kernel_rfl) (by rfl) ?_ (by exact hHeld) ?_
      rotate_left
      · intro w hSw; (try dsimp only at hSw); go_simp; try (with_reducible rfl)
      try simp only [Act.put, List.setIfInBounds_toArray, List.set_cons_zero, List.set_cons_succ]
      refine takeH 6 (some 17) (v := ?_) rfl rfl (by kernel_rfl) (by kernel_rfl) (by kernel_rfl) (by rfl) ?_ (by exact hHeld) ?_
      rotate_left
      · intro w hSw; (try dsimp only at hSw); go_simp; try (with_reducible rfl)
      try simp only [Act.put, List.setIfInBounds_toArray, List.set_cons_zero, List.set_cons_succ]
      refine takeH 7 (some 18) (v := ?_) rfl rfl (by kernel_rfl) (by kernel_rfl) (by kernel_rfl) (by rfl) ?_ (by exact hHeld) ?_
      rotate_left
      · intro w hSw; (try dsimp only at hSw); go_simp; try (with_reducible rfl)
      try simp only [Act.put, List.setIfInBounds_toArray, List.set_cons_zero, List.set_cons_succ]
      refine takeH 8 (some 19) (v := ?_) rfl rfl (by kernel_rfl) (by kernel_rfl) (by kernel_rfl) (by rfl) ?_ (by exact hHeld) ?_
      rotate_left
      · intro w hSw; (try dsimp only at hSw); go_simp; try (with_reducible rfl)
      try simp only [Act.put, List.setIfInBounds_toArray, List.set_cons_zero, List.set_cons_succ]
      refine takeH 9 (some 20) (v := ?_) rfl rfl (by kernel_rfl) (by kernel_rfl) (by kernel_rfl) (by rfl) ?_ (by exact hHeld) ?_
      rotate_left
      · intro w hSw; (try dsimp only at hSw); go_simp; try (with_reducible rfl)
      try simp only [Act.put, List.setIfInBounds_toArray, List.set_cons_zero, List.set_cons_succ]
      refine takeH 10 (some 21) (v := ?_) rfl rfl (by kernel_rfl) (by kernel_rfl) (by kernel_rfl) (by rfl) ?_ (by exact hHeld) ?_
      rotate_left
      · intro w hSw; (try dsimp only at hSw); go_simp; try (with_reducible rfl)
      try simp only [Act.put, List.setIfInBounds_toArray, List.set_cons_zero, List.set_cons_succ]
      refine wpAnyH_ready (rs := [11]) (by kernel_rfl) (by simp) ?_
      refine stepH 11 rfl (by rfl) (fun K hK => ?_) ?_
      · go_simp
        ((with_reducible refine (RefCopy_any b.sp b.dp b.sc b.dc b.s b.d _ ?_ ?_ (by omega) (by omega)).mono ?_); (exact i1.keep ((Below.refl _ _).drew)); (exact i2.keep ((Below.refl _ _).drew)); rintro e4 w4 ⟨⟨p4, c4, q4, f4, rfl, hn1, hn2⟩, hb4⟩; have hb4' : Below wr.heap.size wr w4 := below_t ((Below.refl _ wr).drew) hb4; have HS4 := Lib.hid (HS.out.keep hb4'); have hv4 : Hid (Vals w.heap.size w4 [⟨b.name, p4, c4, b.s, q4, f4, b.d⟩]) := vals_one (hn1.mono hle3) (hn2.mono hle3) i1.i64 i2.i64 (by show b.s.length ≤ 1000000; omega) (by show b.d.length ≤ 1000000; omega) i3; have hbw4 := below_t hbw hb4'; clear hn1 hn2)
        refine hK.out _ _ ?_ (fun hNew => ?_)
        · (try dsimp only); first | exact hS5 | exact hKS _ _ (by first | exact hHeld | exact hS) (by first | assumption | (go_grown; done) | (refine from_drew ?_; go_grown; done))
        clear hK K hHeld
        have hHeld := hNew
        clear hNew
        try dsimp only at hHeld
        try simp only [Act.put, List.setIfInBounds_toArray, List.set_cons_zero, List.set_cons_succ]
        refine takeH 12 (some 23) (v := ?_) rfl rfl (by kernel_rfl) (by kernel_rfl) (by kernel_rfl) (by rfl) ?_ (by exact hHeld) ?_
        rotate_left
        · intro w hSw; (try dsimp only at hSw); go_simp; try (with_reducible rfl)
        try simp only [Act.put, List.setIfInBounds_toArray, List.set_cons_zero, List.set_cons_succ]
        refine wpAnyH_ready (rs := [13]) (by kernel_rfl) (by simp) ?_
        refine stepH 13 rfl (by rfl) (fun K hK => ?_) ?_
        · go_simp
          refine hK.out _ _ ?_ (fun hNew => ?_)
          · (try dsimp only); first | exact hS5 | exact hKS _ _ (by first | exact hHeld | exact hS) (by first | assumption | (go_grown; done) | (refine from_drew ?_; go_grown; done))
          clear hK K hHeld
          have hHeld := hNew
          clear hNew
          try dsimp only at hHeld
          try simp only [Act.put, List.setIfInBounds_toArray, List.set_cons_zero, List.set_cons_succ]
          refine wpAnyH_ready (rs := [14]) (by kernel_rfl) (by simp) ?_
          refine stepH 14 rfl (by rfl) (fun K hK => ?_) ?_
          · (refine wp_append_lies _ _ _ 45 rfl w.heap.size 62 i0 _ 3 64 Try.underlying45 hi hz0 hz1 hz2 rfl (by decide) u3 k (rowsB ds) rfl (HS4.out.row.alloc _) ⟨w4.heap.size, 0, none⟩ 1 1 [.string b.name, .slice p4 b.s.length c4, .slice q4 b.d.length f4] rfl rfl (World.news_of_block (heap_alloc_new w4 _)) (by simp [Value.oneCell']) (by decide) (by unfold maxLen; omega) (by omega) (by have := hbw4.size; simp; omega) _ rfl ?_); intro g5 cap5 w5 hown5 hgrow5 hat5 hlt5; have hbw5 : Below w.heap.size w w5 := (below_t hbw4 (below_alloc _ _)).grown hgrow5 (by have := hbw4.size; simp; omega) (fun j hj => (row_block HS4.out.row hj.symm).choose_spec.2); have hS5 := hKm w5 hbw5; have HN := Lib.hid (ownBs_next HS4.out hv4.out (b' := ⟨b.name, p4, c4, b.s, q4, f4, b.d⟩) (by rw [HBE.out]; exact ⟨rfl, rfl, rfl⟩) hgrow5 hown5)
            refine hK.out _ _ ?_ (fun hNew => ?_)
            · (try dsimp only); first | exact hS5 | exact hKS _ _ (by first | exact hHeld | exact hS) (by first | assumption | (go_grown; done) | (refine from_drew ?_; go_grown; done))
            clear hK K hHeld
            have hHeld := hNew
            clear hNew
            try dsimp only at hHeld
            try simp only [Act.put, List.setIfInBounds_toArray, List.set_cons_zero, List.set_cons_succ]
            refine takeH 15 (some 3) (v := ?_) rfl rfl (by kernel_rfl) (by kernel_rfl) (by kernel_rfl) (by rfl) ?_ (by exact hHeld) ?_
            rotate_left
            · intro w hSw; (try dsimp only at hSw); go_simp; try (with_reducible rfl)
            try simp only [Act.put, List.setIfInBounds_toArray, List.set_cons_zero, List.set_cons_succ]
            refine wpAnyH_done (by kernel_rfl) ?_ _
            refine NoPanic.normal ?_
            clear hHeld hS5
            go_wp2_with fail
            go_roundw
            case rel => exact ⟨k + 1, _, by omega, by go_num, HN, hbw5⟩
            case measure => simp [intOf]; omega
          exact AllReadyH.nil
        exact AllReadyH.nil
      exact AllReadyH.nil
    · have hki : ¬ (k : Int) < (bs.length : Int) := by omega
      have hke : k = bs.length := by omega
      obtain ⟨q, cq, rfl⟩ : ∃ q cq, u3 = .slice q k cq := row_form HS.out.row
      have HP : Hid (CopyB bs w (.returned (.slice q k cq)) wr) := ⟨⟨q, cq, ds, by rw [hke], row_new3 HS.out.row, HS.out.vals, by rw [HS.out.len, hke], fun j hj => HS.out.same j (by omega)⟩, hbw⟩
      clear hke
      go_wp2_with fail
      go_ret
      exact HP.out

theorem RefASmall_is (p q : Option Addr) (c f : Nat) (s d : List Int) (r : Bool) (hr : (smallS s && (arrS s d == 0)) = r) (w : World) (h : Ints w p s) (h' : Ints w q d) :
    Calls Try.prog 61 #[.agg #[.slice p s.length c, .slice q d.length f], .int .i64 300] w fun e w' => e = .returned (.bool r) ∧ Below w.heap.size w w' := hr ▸ RefASmall_any p q c f s d w h h'
theorem Few1_is (p : Option Addr) (c : Nat) (bs : List BV) (n : Int) (r : Bool) (hr : fewB bs n = r) (w : World) (h : Binds w p bs) :
    Calls Try.prog 22 #[.slice p bs.length c, .int .i64 n] w fun e w' => e = .returned (.bool r) ∧ Below w.heap.size w w' := hr ▸ Few_any p c bs n w h

def smallA (b : BV) : Bool := smallS b.s && (arrS b.s b.d == 0)
theorem ends_true {r : Bool} {P : Prop} (h : r = true ↔ P) (hp : P) : true = r := (h.2 hp).symm
theorem ends_false {r : Bool} {P : Prop} (h : r = true ↔ P) (hp : ¬ P) : false = r := by
  cases r with
  | false => rfl
  | true => exact absurd (h.1 rfl) hp

set_option maxHeartbeats 4000000 in
theorem RSmall_any (r : Bool) (p : Option Addr) (c : Nat) (bs : List BV) (hr : r = true ↔ (fewB bs 300 = true ∧ RightP bs ∧ bs.all smallA = true)) (w : World) (h : Binds w p bs) :
    Calls Try.prog 38 #[.slice p bs.length c, .int .i64 300] w fun e w' => e = .returned (.bool r) ∧ Below w.heap.size w w' := by
  have hsm := h.small
  cases hf : fewB bs 300 with
  | false =>
    have HF := Lib.hid hf
    have HE := Lib.hid (ends_false hr (fun h => by rw [hf] at h; cases h.1))
    clear hr hf
    go_enter Try.func38, Try.ntmps38
    go_wp2_with fail
    refine (Few1_is p c bs 300 false HF.out _ h).mono ?_
    rintro e1 w1 ⟨rfl, hb⟩
    go_wp2_with fail
    go_ret
    exact ⟨ret_bool HE.out, hb⟩
  | true =>
    have HF := Lib.hid hf
    by_cases hR : RightP bs
    · have HR := Lib.hid hR
      have Hno : Hid (bs.all smallA = false → false = r) := fun h => ends_false hr (fun k => by rw [h] at k; cases k.2.2)
      have Hyes : Hid (bs.all smallA = true → true = r) := fun h => ends_true hr ⟨hf, hR, h⟩
      clear hr hf hR
      go_enter Try.func38, Try.ntmps38
      go_wp2_with fail
      refine (Few1_is p c bs 300 true HF.out _ h).mono ?_
      rintro e1 w1 ⟨rfl, hb⟩
      go_wp2_with fail
      refine (Right_any true p c bs ⟨fun _ => HR.out, fun _ => rfl⟩ _ (h.keep hb)).mono ?_
      rintro e2 w2 ⟨rfl, hb1⟩
      have hb := below_t hb hb1
      clear hb1
      go_wp2_with fail
      go_loopw [5] (fun i wr => ∃ k : Nat, k ≤ bs.length ∧ i = .int .i64 k ∧ Below w.heap.size w wr ∧ Hid ((bs.take k).all smallA = true)) (fun i _ => bs.length - (intOf i).toNat)
      case atStart => exact ⟨0, Nat.zero_le _, rfl, hb, rfl⟩
      case round =>
        obtain ⟨k, hk, rfl, hbw, hI⟩ := hrel
        clear hb
        by_cases hlt : k < bs.length
        · have hB := h.keep hbw
          obtain ⟨g, off, rfl, hg0, c0, c1, c2⟩ := hB.at hlt
          obtain ⟨i1, i2, i3⟩ := hB.vals _ (bth_mem hlt)
          have hki : (k : Int) < (bs.length : Int) := by omega
          have hg := bth_get? hlt
          obtain ⟨b, hb⟩ : ∃ b, bth bs k = b := ⟨_, rfl⟩
          rw [hb] at c0 c1 c2 i1 i2 i3 hg
          cases hx : smallA b with
          | false =>
            have HN := Lib.hid (Hno.out (all_no (p := smallA) hg hx))
            have HX := Lib.hid hx
            clear hb hg hx Hno Hyes c0
            go_wp2_with fail
            refine (RefASmall_is _ _ _ _ _ _ false HX.out _ i1 i2).mono ?_
            rintro e3 w3 ⟨rfl, hb3⟩
            have hbb := below_t hbw hb3
            go_wp2_with fail
            go_ret
            exact ⟨ret_bool HN.out, hbb⟩
          | true =>
            have HI := Lib.hid (all_take (p := smallA) hg hI.out hx)
            have HX := Lib.hid hx
            clear hb hg hx c0
            go_wp2_with fail
            refine (RefASmall_is _ _ _ _ _ _ true HX.out _ i1 i2).mono ?_
            rintro e3 w3 ⟨rfl, hb3⟩
            have hbb := below_t hbw hb3
            go_wp2_with fail
            go_roundw
            case rel => exact ⟨k + 1, by omega, by go_num, hbb, HI⟩
            case measure => simp [intOf]; omega
        · have hki : ¬ (k : Int) < (bs.length : Int) := by omega
          have HE := Lib.hid (Hyes.out (all_end (p := smallA) (by omega) hI.out))
          go_wp2_with fail
          go_ret
          exact ⟨ret_bool HE.out, hbw⟩
    · have HR := Lib.hid hR
      have HE := Lib.hid (ends_false hr (fun h => hR h.2.1))
      clear hr hf hR
      go_enter Try.func38, Try.ntmps38
      go_wp2_with fail
      refine (Few1_is p c bs 300 true HF.out _ h).mono ?_
      rintro e1 w1 ⟨rfl, hb⟩
      go_wp2_with fail
      refine (Right_any false p c bs ⟨fun h => (by cases h), fun h => absurd h HR.out⟩ _ (h.keep hb)).mono ?_
      rintro e2 w2 ⟨rfl, hb1⟩
      have hb := below_t hb hb1
      go_wp2_with fail
      go_ret
      exact ⟨ret_bool HE.out, hb⟩
end Go.Proofs.Ytolkgjbljdmadaa
