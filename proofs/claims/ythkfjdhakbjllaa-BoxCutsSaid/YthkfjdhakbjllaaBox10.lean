/- What two boxes have in common, in the reference. No condition beyond what each says. -/
import Derived.Test.YthkfjdhakbjllaaBox9
import Derived.Deep.DeepCutAuto
namespace Go.Proofs.Ythkfjdhakbjllaa
open Go.RowKit Go.Shelf
set_option linter.unusedVariables false
set_option linter.unusedSimpArgs false

theorem wp_append_lone {w : World} {o : Oper} {a : Act} {K : Act → World → Prop} {Q : Exit → Act → World → Prop} (s x : Operand)
    (ho : o.op = .call { callee := .builtin .append, args := #[s, x], argTypes := #[22, 22] })
    (base : Nat) (v : Value) (n : Nat) (xs : List Value) (hs : a.eval s = v) (hown : w.ownsRow base 3 1 v n xs)
    (b : Nat) (y : Int) (hx : a.eval x = .slice (some ⟨b, 0, none⟩) 1 1) (hb : w.heap[b]? = some (.cells #[.int .i64 y] 3 (0, 0))) (hbig : n ≤ 1000000) (hbase : base ≤ w.heap.size)
    (h : ∀ g cap w', w'.ownsRow base 3 1 (.slice (some ⟨g, 0, none⟩) (n + 1) cap) (n + 1) (xs ++ [.int .i64 y]) → w.grownBy w' v.ownBlock → (v.ownBlock = some g ∨ g = w.heap.size) → K (a.put o.dst (.slice (some ⟨g, 0, none⟩) (n + 1) cap)) w') : o.wp Try.prog a w K Q := by
  obtain ⟨i, hi, hz, hsize, hbytes⟩ := info_parts info_int
  exact wp_append_lies w s x 22 ho base 3 i (.int .i64 0) 1 8 Try.underlying22 hi hz hsize hbytes rfl (by decide) v n xs hs hown ⟨b, 0, none⟩ 1 1 [.int .i64 y] hx rfl (World.news_of_block hb) (by simp [Value.oneCell']) (by decide) (by unfold maxLen; omega) (by omega) hbase _ rfl fun g cap w' h1 h2 h3 _ => h g cap w' h1 h2 h3

set_option maxRecDepth 100000 in
set_option maxHeartbeats 4000000 in
theorem RefMeet_any (p q p' q' : Option Addr) (c f c' f' : Nat) (alo ahi blo bhi : List Int) (hl : alo.length ≤ 1000000) (ha : alo.length = ahi.length) (hb' : blo.length = bhi.length) (hne : alo.length = blo.length)
    (w : World) (h1 : Ints w p alo) (h2 : Ints w q ahi) (h3 : Ints w p' blo) (h4 : Ints w q' bhi) :
    Calls Try.prog 55 #[.agg #[.slice p alo.length c, .slice q ahi.length f], .agg #[.slice p' blo.length c', .slice q' bhi.length f']] w (MeetRet alo ahi blo bhi w) := by
  have hlb : ((alo.length : Int) != (blo.length : Int)) = false := by simp [hne]
  have lA := Lib.hid ha
  have lB := Lib.hid hb'
  have lN := Lib.hid hne
  have ll1 : (meetLo alo blo).length = alo.length := mix_len (by omega)
  have ll2 : (meetHi ahi bhi).length = ahi.length := mix_len (by omega)
  have L1 := Lib.hid ll1
  have L2 := Lib.hid ll2
  have b1 := below_alloc w (.cells #[.slice p alo.length c, .slice q ahi.length f] 65)
  have OA := Own.made w w.heap.size [.slice p alo.length c, .slice q ahi.length f] 65 rfl
  obtain ⟨W1, hW1⟩ : ∃ W1, w.alloc (.cells #[.slice p alo.length c, .slice q ahi.length f] 65) = W1 := ⟨_, rfl⟩
  have OA : Own W1 w.heap.size 65 [.slice p alo.length c, .slice q ahi.length f] := hW1 ▸ OA
  have z1 : W1.heap.size = w.heap.size + 1 := by rw [← hW1]; simp
  rw [hW1] at b1
  have OB := Own.made W1 (w.heap.size + 1) [.slice p' blo.length c', .slice q' bhi.length f'] 65 z1.symm
  have b2 := below_alloc W1 (.cells #[.slice p' blo.length c', .slice q' bhi.length f'] 65)
  obtain ⟨W2, hW2⟩ : ∃ W2, W1.alloc (.cells #[.slice p' blo.length c', .slice q' bhi.length f'] 65) = W2 := ⟨_, rfl⟩
  have OB : Own W2 (w.heap.size + 1) 65 [.slice p' blo.length c', .slice q' bhi.length f'] := hW2 ▸ OB
  have z2 : W2.heap.size = w.heap.size + 2 := by rw [← hW2]; simp [z1]
  rw [hW2] at b2
  have OR := Own.made W2 (w.heap.size + 2) [.slice none 0 0, .slice none 0 0] 65 z2.symm
  have b3 := below_alloc W2 (.cells #[.slice none 0 0, .slice none 0 0] 65)
  obtain ⟨W3, hW3⟩ : ∃ W3, W2.alloc (.cells #[.slice none 0 0, .slice none 0 0] 65) = W3 := ⟨_, rfl⟩
  have OR : Own W3 (w.heap.size + 2) 65 [.slice none 0 0, .slice none 0 0] := hW3 ▸ OR
  rw [hW3] at b3
  have z3 : W3.heap.size = w.heap.size + 3 := by rw [← hW3]; simp [z2]
  have OC := Own.made W3 (w.heap.size + 3) [.slice none 0 0, .slice none 0 0] 65 z3.symm
  have b4 := below_alloc W3 (.cells #[.slice none 0 0, .slice none 0 0] 65)
  obtain ⟨W4, hW4⟩ : ∃ W4, W3.alloc (.cells #[.slice none 0 0, .slice none 0 0] 65) = W4 := ⟨_, rfl⟩
  have OC : Own W4 (w.heap.size + 3) 65 [.slice none 0 0, .slice none 0 0] := hW4 ▸ OC
  rw [hW4] at b4
  have z4 : W4.heap.size = w.heap.size + 4 := by rw [← hW4]; simp [z3]
  have hst : Hid (MeetSt w (.slice p alo.length c) (.slice q ahi.length f) (.slice p' blo.length c') (.slice q' bhi.length f') (meetLo alo blo) (meetHi ahi bhi) 0 0 (.slice none 0 0) (.slice none 0 0) W4) :=
    ⟨((OA.keep b2 OA.lt).keep b3 (by omega)).keep b4 (by omega), (OB.keep b3 OB.lt).keep b4 (by omega), OR.keep b4 OR.lt, OC, Two.nil _ _, by omega, below_t b1 (below_t b2 (below_t b3 b4))⟩
  have HW : Hid ((((w.alloc (.cells #[.slice p alo.length c, .slice q ahi.length f] 65)).alloc (.cells #[.slice p' blo.length c', .slice q' bhi.length f'] 65)).alloc (.cells #[.slice none 0 0, .slice none 0 0] 65)).alloc (.cells #[.slice none 0 0, .slice none 0 0] 65) = W4) := by rw [Hid, hW1, hW2, hW3, hW4]
  clear b1 b2 b3 b4 hW1 hW2 hW3 hW4 z1 z2 z3 z4 OA OB OR OC ha hb' hne ll1 ll2
  go_enter Try.func55, Try.ntmps55
  go_wp2_with fail
  rw [HW.out]
  clear HW
  go_loopw [7] (fun i wr => ∃ (k : Nat) (v1 v2 : Value), k ≤ alo.length ∧ i = .int .i64 k ∧ Hid (MeetSt w (.slice p alo.length c) (.slice q ahi.length f) (.slice p' blo.length c') (.slice q' bhi.length f') (meetLo alo blo) (meetHi ahi bhi) k k v1 v2 wr)) (fun i _ => alo.length - (intOf i).toNat)
  case atStart => exact ⟨0, _, _, Nat.zero_le _, rfl, hst⟩
  case round =>
    obtain ⟨k, v1, v2, hk, rfl, HM⟩ := hrel
    clear hst
    have a0 := HM.out.a.cell (i := 0) rfl
    by_cases hlt : k < alo.length
    · have hi1 : (k : Int) < (alo.length : Int) := by omega
      have hltb : k < blo.length := by have := lN.out; omega
      obtain ⟨ga, oa, rfl, hga, ca⟩ := h1.at hlt
      obtain ⟨gb, ob, rfl, hgb, cb⟩ := h3.at hltb
      have hi2 : (k : Int) < (blo.length : Int) := by omega
      obtain ⟨x, hx⟩ : ∃ x, nth alo k = x := ⟨_, rfl⟩
      obtain ⟨y, hy⟩ : ∃ y, nth blo k = y := ⟨_, rfl⟩
      have HX : Hid (nth (meetLo alo blo) k = mxI x y) := by rw [Hid, ← hx, ← hy]; exact mix_nth hlt hltb
      rw [hx] at ca
      rw [hy] at cb
      clear hx hy
      have q0 := HM.out.c.cell (i := 0) rfl
      have hsz := HM.out.size
      have hKS : Keeps (fun w' => (w.heap.size < w'.heap.size ∧ w'.cell? ⟨w.heap.size, 0, none⟩ = some (.slice (some ⟨ga, oa, none⟩) alo.length c)) ∧ (w.heap.size + 1 < w'.heap.size ∧ w'.cell? ⟨w.heap.size + 1, 0, none⟩ = some (.slice (some ⟨gb, ob, none⟩) blo.length c')) ∧ (ga < w'.heap.size ∧ w'.cell? ⟨ga, oa + k, none⟩ = some (.int .i64 x)) ∧ (gb < w'.heap.size ∧ w'.cell? ⟨gb, ob + k, none⟩ = some (.int .i64 y))) := (keeps_cell _ _ _).and ((keeps_cell _ _ _).and ((keeps_cell _ _ _).and (keeps_cell _ _ _)))
      have hSg : ∀ z, Own z w.heap.size 65 [.slice (some ⟨ga, oa, none⟩) alo.length c, .slice q ahi.length f] → Own z (w.heap.size + 1) 65 [.slice (some ⟨gb, ob, none⟩) blo.length c', .slice q' bhi.length f'] → Below w.heap.size w z → (fun w' => (w.heap.size < w'.heap.size ∧ w'.cell? ⟨w.heap.size, 0, none⟩ = some (.slice (some ⟨ga, oa, none⟩) alo.length c)) ∧ (w.heap.size + 1 < w'.heap.size ∧ w'.cell? ⟨w.heap.size + 1, 0, none⟩ = some (.slice (some ⟨gb, ob, none⟩) blo.length c')) ∧ (ga < w'.heap.size ∧ w'.cell? ⟨ga, oa + k, none⟩ = some (.int .i64 x)) ∧ (gb < w'.heap.size ∧ w'.cell? ⟨gb, ob + k, none⟩ = some (.int .i64 y))) z := fun z o1 o2 hb => ⟨⟨o1.lt, o1.cell (i := 0) rfl⟩, ⟨o2.lt, o2.cell (i := 0) rfl⟩, ⟨Nat.lt_of_lt_of_le hga hb.size, (hb.cell (p := ⟨ga, oa + k, none⟩) hga).trans ca⟩, ⟨Nat.lt_of_lt_of_le hgb hb.size, (hb.cell (p := ⟨gb, ob + k, none⟩) hgb).trans cb⟩⟩
      have hS := hSg _ HM.out.a HM.out.b HM.out.below
      have qa : ∀ m, (wr.alloc (.cells #[m] 3)).cell? ⟨w.heap.size + 1 + 1 + 1, 0, none⟩ = some v1 := fun m => ((below_alloc wr _).cell (p := ⟨w.heap.size + 3, 0, none⟩) (by show w.heap.size + 3 < _; omega)).trans q0
      have hlL : k < (meetLo alo blo).length := by rw [L1.out]; exact hlt
      have hne3 : w.heap.size + 3 ≠ wr.heap.size := by omega
      go_upto_region 7 with fail
      clear a0
      go_cut [7] (fun i wx => i = .int .i64 k ∧ ∃ v wz, wz = wx ∧ Hid (MeetSt w (.slice (some ⟨ga, oa, none⟩) alo.length c) (.slice q ahi.length f) (.slice (some ⟨gb, ob, none⟩) blo.length c') (.slice q' bhi.length f') (meetLo alo blo) (meetHi ahi bhi) (k + 1) k v v2 wz))
      case first =>
        refine wp_region_noPanic ?_
        refine wp_region_held_drew (S := (fun w' => (w.heap.size < w'.heap.size ∧ w'.cell? ⟨w.heap.size, 0, none⟩ = some (.slice (some ⟨ga, oa, none⟩) alo.length c)) ∧ (w.heap.size + 1 < w'.heap.size ∧ w'.cell? ⟨w.heap.size + 1, 0, none⟩ = some (.slice (some ⟨gb, ob, none⟩) blo.length c')) ∧ (ga < w'.heap.size ∧ w'.cell? ⟨ga, oa + k, none⟩ = some (.int .i64 x)) ∧ (gb < w'.heap.size ∧ w'.cell? ⟨gb, ob + k, none⟩ = some (.int .i64 y)))) (by kernel_rfl) ?_ (fun hHeld => ?_)
        · (try dsimp only); first | exact hS6 | exact hS5 | exact hKS _ _ (by first | exact hHeld | exact hS) (by first | assumption | (go_grown; done) | (refine from_drew ?_; go_grown; done))
        refine takeH 0 (some 23) (v := ?_) rfl rfl (by kernel_rfl) (by kernel_rfl) (by kernel_rfl) (by rfl) ?_ (by exact hHeld) ?_
        rotate_left
        · intro w hSw; (try dsimp only at hSw); go_simp; try (with_reducible rfl)
        try simp only [Act.put, List.setIfInBounds_toArray, List.set_cons_zero, List.set_cons_succ]
        refine takeH 2 (some 25) (v := ?_) rfl rfl (by kernel_rfl) (by kernel_rfl) (by kernel_rfl) (by rfl) ?_ (by exact hHeld) ?_
        rotate_left
        · intro w hSw; (try dsimp only at hSw); go_simp; try (with_reducible rfl)
        try simp only [Act.put, List.setIfInBounds_toArray, List.set_cons_zero, List.set_cons_succ]
        refine takeH 3 (some 26) (v := ?_) rfl rfl (by kernel_rfl) (by kernel_rfl) (by kernel_rfl) (by rfl) ?_ (by exact hHeld) ?_
        rotate_left
        · intro w hSw; (try dsimp only at hSw); go_simp; try (with_reducible rfl)
        try simp only [Act.put, List.setIfInBounds_toArray, List.set_cons_zero, List.set_cons_succ]
        refine takeH 4 (some 27) (v := ?_) rfl rfl (by kernel_rfl) (by kernel_rfl) (by kernel_rfl) (by rfl) ?_ (by exact hHeld) ?_
        rotate_left
        · intro w hSw; (try dsimp only at hSw); go_simp; try (with_reducible rfl)
        try simp only [Act.put, List.setIfInBounds_toArray, List.set_cons_zero, List.set_cons_succ]
        refine takeH 5 (some 28) (v := ?_) rfl rfl (by kernel_rfl) (by kernel_rfl) (by kernel_rfl) (by rfl) ?_ (by exact hHeld) ?_
        rotate_left
        · intro w hSw; (try dsimp only at hSw); go_simp; try (with_reducible rfl)
        try simp only [Act.put, List.setIfInBounds_toArray, List.set_cons_zero, List.set_cons_succ]
        refine takeH 6 (some 29) (v := ?_) rfl rfl (by kernel_rfl) (by kernel_rfl) (by kernel_rfl) (by rfl) ?_ (by exact hHeld) ?_
        rotate_left
        · intro w hSw; (try dsimp only at hSw); go_simp; try (with_reducible rfl)
        try simp only [Act.put, List.setIfInBounds_toArray, List.set_cons_zero, List.set_cons_succ]
        refine takeH 7 (some 30) (v := ?_) rfl rfl (by kernel_rfl) (by kernel_rfl) (by kernel_rfl) (by rfl) ?_ (by exact hHeld) ?_
        rotate_left
        · intro w hSw; (try dsimp only at hSw); go_simp; try (with_reducible rfl)
        try simp only [Act.put, List.setIfInBounds_toArray, List.set_cons_zero, List.set_cons_succ]
        refine takeH 8 (some 31) (v := ?_) rfl rfl (by kernel_rfl) (by kernel_rfl) (by kernel_rfl) (by rfl) ?_ (by exact hHeld) ?_
        rotate_left
        · intro w hSw; (try dsimp only at hSw); go_simp; try (with_reducible rfl)
        try simp only [Act.put, List.setIfInBounds_toArray, List.set_cons_zero, List.set_cons_succ]
        refine takeH 9 (some 32) (v := ?_) rfl rfl (by kernel_rfl) (by kernel_rfl) (by kernel_rfl) (by rfl) ?_ (by exact hHeld) ?_
        rotate_left
        · intro w hSw; (try dsimp only at hSw); go_simp; try (with_reducible rfl)
        try simp only [Act.put, List.setIfInBounds_toArray, List.set_cons_zero, List.set_cons_succ]
        refine takeH 10 (some 33) (v := ?_) rfl rfl (by kernel_rfl) (by kernel_rfl) (by kernel_rfl) (by rfl) ?_ (by exact hHeld) ?_
        rotate_left
        · intro w hSw; (try dsimp only at hSw); go_simp; try (with_reducible rfl)
        try simp only [Act.put, List.setIfInBounds_toArray, List.set_cons_zero, List.set_cons_succ]
        refine takeH 11 (some 34) (v := ?_) rfl rfl (by kernel_rfl) (by kernel_rfl) (by kernel_rfl) (by rfl) ?_ (by exact hHeld) ?_
        rotate_left
        · intro w hSw; (try dsimp only at hSw); go_simp; try (with_reducible rfl)
        try simp only [Act.put, List.setIfInBounds_toArray, List.set_cons_zero, List.set_cons_succ]
        refine wpAnyH_ready (rs := [1, 12]) (by kernel_rfl) (by simp) ?_
        refine stepH 1 rfl (by rfl) (fun K hK => ?_) ?_
        · go_simp
          refine hK.out _ _ ?_ (fun hNew => ?_)
          · (try dsimp only); first | exact hS6 | exact hS5 | exact hKS _ _ (by first | exact hHeld | exact hS) (by first | assumption | (go_grown; done) | (refine from_drew ?_; go_grown; done))
          clear hK K hHeld
          have hHeld := hNew
          clear hNew
          try dsimp only at hHeld
          try simp only [Act.put, List.setIfInBounds_toArray, List.set_cons_zero, List.set_cons_succ]
          refine wpAnyH_ready (rs := [12]) (by kernel_rfl) (by simp) ?_
          refine stepH 12 rfl (by rfl) (fun K hK => ?_) ?_
          · go_simp
            refine hK.out _ _ ?_ (fun hNew => ?_)
            · (try dsimp only); first | exact hS6 | exact hS5 | exact hKS _ _ (by first | exact hHeld | exact hS) (by first | assumption | (go_grown; done) | (refine from_drew ?_; go_grown; done))
            clear hK K hHeld
            have hHeld := hNew
            clear hNew
            try dsimp only at hHeld
            try simp only [Act.put, List.setIfInBounds_toArray, List.set_cons_zero, List.set_cons_succ]
            refine wpAnyH_ready (rs := [13]) (by kernel_rfl) (by simp) ?_
            refine stepH 13 rfl (by rfl) (fun K hK => ?_) ?_
            · go_simp
              refine hK.out _ _ ?_ (fun hNew => ?_)
              · (try dsimp only); first | exact hS6 | exact hS5 | exact hKS _ _ (by first | exact hHeld | exact hS) (by first | assumption | (go_grown; done) | (refine from_drew ?_; go_grown; done))
              clear hK K hHeld
              have hHeld := hNew
              clear hNew
              try dsimp only at hHeld
              try simp only [Act.put, List.setIfInBounds_toArray, List.set_cons_zero, List.set_cons_succ]
              refine wpAnyH_ready (rs := [14]) (by kernel_rfl) (by simp) ?_
              refine stepH 14 rfl (by rfl) (fun K hK => ?_) ?_
              · (refine wp_append_lone _ _ rfl (w.heap.size + 4) v1 k _ rfl (HM.out.two.r1.alloc _) wr.heap.size (mxI x y) rfl (heap_alloc_new _ _) (by omega) (by simp; omega) ?_); intro g5 cap5 w5 hown5 hgrow5 hat5; have M7 := Lib.hid ((HM.out.drew _).next1 hlL HX.out hgrow5 hown5 hat5); obtain ⟨m1, m2, m3, m4⟩ := (HM.out.drew _).mid hgrow5 (.inl rfl); have hS5 := hSg _ m1 m2 m4; have hS6 := hSg _ M7.out.a M7.out.b M7.out.below; have c50 := m3.cell (i := 0) rfl; have f50 := m3.frozen 0; clear m1 m2 m3 m4 hgrow5 hown5 hat5
                refine hK.out _ _ ?_ (fun hNew => ?_)
                · (try dsimp only); first | exact hS6 | exact hS5 | exact hKS _ _ (by first | exact hHeld | exact hS) (by first | assumption | (go_grown; done) | (refine from_drew ?_; go_grown; done))
                clear hK K hHeld
                have hHeld := hNew
                clear hNew
                try dsimp only at hHeld
                try simp only [Act.put, List.setIfInBounds_toArray, List.set_cons_zero, List.set_cons_succ]
                refine takeH 15 (some 38) (v := ?_) rfl rfl (by kernel_rfl) (by kernel_rfl) (by kernel_rfl) (by rfl) ?_ (by exact hHeld) ?_
                rotate_left
                · intro w hSw; (try dsimp only at hSw); go_simp; try (with_reducible rfl)
                try simp only [Act.put, List.setIfInBounds_toArray, List.set_cons_zero, List.set_cons_succ]
                refine wpAnyH_ready (rs := [16]) (by kernel_rfl) (by simp) ?_
                refine stepH 16 rfl (by rfl) (fun K hK => ?_) ?_
                · go_simp
                  refine hK.out _ _ ?_ (fun hNew => ?_)
                  · (try dsimp only); first | exact hS6 | exact hS5 | exact hKS _ _ (by first | exact hHeld | exact hS) (by first | assumption | (go_grown; done) | (refine from_drew ?_; go_grown; done))
                  clear hK K hHeld
                  have hHeld := hNew
                  clear hNew
                  try dsimp only at hHeld
                  try simp only [Act.put, List.setIfInBounds_toArray, List.set_cons_zero, List.set_cons_succ]
                  refine wpAnyH_done (by kernel_rfl) ?_ _
                  refine NoPanic.normal ?_
                  go_wp2_with fail
                  all_goals (go_meet; exact ⟨rfl, _, _, rfl, M7⟩)
                exact AllReadyH.nil
              exact AllReadyH.nil
            exact AllReadyH.nil
          exact AllReadyH.nil
        refine stepH 12 rfl (by rfl) (fun K hK => ?_) ?_
        · go_simp
          refine hK.out _ _ ?_ (fun hNew => ?_)
          · (try dsimp only); first | exact hS6 | exact hS5 | exact hKS _ _ (by first | exact hHeld | exact hS) (by first | assumption | (go_grown; done) | (refine from_drew ?_; go_grown; done))
          clear hK K hHeld
          have hHeld := hNew
          clear hNew
          try dsimp only at hHeld
          try simp only [Act.put, List.setIfInBounds_toArray, List.set_cons_zero, List.set_cons_succ]
          refine wpAnyH_ready (rs := [1, 13]) (by kernel_rfl) (by simp) ?_
          refine stepH 1 rfl (by rfl) (fun K hK => ?_) ?_
          · go_simp
            refine hK.out _ _ ?_ (fun hNew => ?_)
            · (try dsimp only); first | exact hS6 | exact hS5 | exact hKS _ _ (by first | exact hHeld | exact hS) (by first | assumption | (go_grown; done) | (refine from_drew ?_; go_grown; done))
            clear hK K hHeld
            have hHeld := hNew
            clear hNew
            try dsimp only at hHeld
            try simp only [Act.put, List.setIfInBounds_toArray, List.set_cons_zero, List.set_cons_succ]
            refine wpAnyH_ready (rs := [13]) (by kernel_rfl) (by simp) ?_
            refine stepH 13 rfl (by rfl) (fun K hK => ?_) ?_
            · go_simp
              refine hK.out _ _ ?_ (fun hNew => ?_)
              · (try dsimp only); first | exact hS6 | exact hS5 | exact hKS _ _ (by first | exact hHeld | exact hS) (by first | assumption | (go_grown; done) | (refine from_drew ?_; go_grown; done))
              clear hK K hHeld
              have hHeld := hNew
              clear hNew
              try dsimp only at hHeld
              try simp only [Act.put, List.setIfInBounds_toArray, List.set_cons_zero, List.set_cons_succ]
              refine wpAnyH_ready (rs := [14]) (by kernel_rfl) (by simp) ?_
              refine stepH 14 rfl (by rfl) (fun K hK => ?_) ?_
              · (refine wp_append_lone _ _ rfl (w.heap.size + 4) v1 k _ rfl (HM.out.two.r1.alloc _) wr.heap.size (mxI x y) rfl (heap_alloc_new _ _) (by omega) (by simp; omega) ?_); intro g5 cap5 w5 hown5 hgrow5 hat5; have M7 := Lib.hid ((HM.out.drew _).next1 hlL HX.out hgrow5 hown5 hat5); obtain ⟨m1, m2, m3, m4⟩ := (HM.out.drew _).mid hgrow5 (.inl rfl); have hS5 := hSg _ m1 m2 m4; have hS6 := hSg _ M7.out.a M7.out.b M7.out.below; have c50 := m3.cell (i := 0) rfl; have f50 := m3.frozen 0; clear m1 m2 m3 m4 hgrow5 hown5 hat5
                refine hK.out _ _ ?_ (fun hNew => ?_)
                · (try dsimp only); first | exact hS6 | exact hS5 | exact hKS _ _ (by first | exact hHeld | exact hS) (by first | assumption | (go_grown; done) | (refine from_drew ?_; go_grown; done))
                clear hK K hHeld
                have hHeld := hNew
                clear hNew
                try dsimp only at hHeld
                try simp only [Act.put, List.setIfInBounds_toArray, List.set_cons_zero, List.set_cons_succ]
                refine takeH 15 (some 38) (v := ?_) rfl rfl (by kernel_rfl) (by kernel_rfl) (by kernel_rfl) (by rfl) ?_ (by exact hHeld) ?_
                rotate_left
                · intro w hSw; (try dsimp only at hSw); go_simp; try (with_reducible rfl)
                try simp only [Act.put, List.setIfInBounds_toArray, List.set_cons_zero, List.set_cons_succ]
                refine wpAnyH_ready (rs := [16]) (by kernel_rfl) (by simp) ?_
                refine stepH 16 rfl (by rfl) (fun K hK => ?_) ?_
                · go_simp
                  refine hK.out _ _ ?_ (fun hNew => ?_)
                  · (try dsimp only); first | exact hS6 | exact hS5 | exact hKS _ _ (by first | exact hHeld | exact hS) (by first | assumption | (go_grown; done) | (refine from_drew ?_; go_grown; done))
                  clear hK K hHeld
                  have hHeld := hNew
                  clear hNew
                  try dsimp only at hHeld
                  try simp only [Act.put, List.setIfInBounds_toArray, List.set_cons_zero, List.set_cons_succ]
                  refine wpAnyH_done (by kernel_rfl) ?_ _
                  refine NoPanic.normal ?_
                  go_wp2_with fail
                  all_goals (go_meet; exact ⟨rfl, _, _, rfl, M7⟩)
                exact AllReadyH.nil
              exact AllReadyH.nil
            exact AllReadyH.nil
          refine stepH 13 rfl (by rfl) (fun K hK => ?_) ?_
          · go_simp
            refine hK.out _ _ ?_ (fun hNew => ?_)
            · (try dsimp only); first | exact hS6 | exact hS5 | exact hKS _ _ (by first | exact hHeld | exact hS) (by first | assumption | (go_grown; done) | (refine from_drew ?_; go_grown; done))
            clear hK K hHeld
            have hHeld := hNew
            clear hNew
            try dsimp only at hHeld
            try simp only [Act.put, List.setIfInBounds_toArray, List.set_cons_zero, List.set_cons_succ]
            refine wpAnyH_ready (rs := [1]) (by kernel_rfl) (by simp) ?_
            refine stepH 1 rfl (by rfl) (fun K hK => ?_) ?_
            · go_simp
              refine hK.out _ _ ?_ (fun hNew => ?_)
              · (try dsimp only); first | exact hS6 | exact hS5 | exact hKS _ _ (by first | exact hHeld | exact hS) (by first | assumption | (go_grown; done) | (refine from_drew ?_; go_grown; done))
              clear hK K hHeld
              have hHeld := hNew
              clear hNew
              try dsimp only at hHeld
              try simp only [Act.put, List.setIfInBounds_toArray, List.set_cons_zero, List.set_cons_succ]
              refine wpAnyH_ready (rs := [14]) (by kernel_rfl) (by simp) ?_
              refine stepH 14 rfl (by rfl) (fun K hK => ?_) ?_
              · (refine wp_append_lone _ _ rfl (w.heap.size + 4) v1 k _ rfl (HM.out.two.r1.alloc _) wr.heap.size (mxI x y) rfl (heap_alloc_new _ _) (by omega) (by simp; omega) ?_); intro g5 cap5 w5 hown5 hgrow5 hat5; have M7 := Lib.hid ((HM.out.drew _).next1 hlL HX.out hgrow5 hown5 hat5); obtain ⟨m1, m2, m3, m4⟩ := (HM.out.drew _).mid hgrow5 (.inl rfl); have hS5 := hSg _ m1 m2 m4; have hS6 := hSg _ M7.out.a M7.out.b M7.out.below; have c50 := m3.cell (i := 0) rfl; have f50 := m3.frozen 0; clear m1 m2 m3 m4 hgrow5 hown5 hat5
                refine hK.out _ _ ?_ (fun hNew => ?_)
                · (try dsimp only); first | exact hS6 | exact hS5 | exact hKS _ _ (by first | exact hHeld | exact hS) (by first | assumption | (go_grown; done) | (refine from_drew ?_; go_grown; done))
                clear hK K hHeld
                have hHeld := hNew
                clear hNew
                try dsimp only at hHeld
                try simp only [Act.put, List.setIfInBounds_toArray, List.set_cons_zero, List.set_cons_succ]
                refine takeH 15 (some 38) (v := ?_) rfl rfl (by kernel_rfl) (by kernel_rfl) (by kernel_rfl) (by rfl) ?_ (by exact hHeld) ?_
                rotate_left
                · intro w hSw; (try dsimp only at hSw); go_simp; try (with_reducible rfl)
                try simp only [Act.put, List.setIfInBounds_toArray, List.set_cons_zero, List.set_cons_succ]
                refine wpAnyH_ready (rs := [16]) (by kernel_rfl) (by simp) ?_
                refine stepH 16 rfl (by rfl) (fun K hK => ?_) ?_
                · go_simp
                  refine hK.out _ _ ?_ (fun hNew => ?_)
                  · (try dsimp only); first | exact hS6 | exact hS5 | exact hKS _ _ (by first | exact hHeld | exact hS) (by first | assumption | (go_grown; done) | (refine from_drew ?_; go_grown; done))
                  clear hK K hHeld
                  have hHeld := hNew
                  clear hNew
                  try dsimp only at hHeld
                  try simp only [Act.put, List.setIfInBounds_toArray, List.set_cons_zero, List.set_cons_succ]
                  refine wpAnyH_done (by kernel_rfl) ?_ _
                  refine NoPanic.normal ?_
                  go_wp2_with fail
                  all_goals (go_meet; exact ⟨rfl, _, _, rfl, M7⟩)
                exact AllReadyH.nil
              exact AllReadyH.nil
            exact AllReadyH.nil
          exact AllReadyH.nil
        exact AllReadyH.nil
      case rest =>
        obtain ⟨rfl, v, wz, rfl, HN⟩ := hcut
        clear HM hS hSg hKS q0 qa hne3 hsz HX ca cb
        have hltc : k < ahi.length := by have := lA.out; omega
        have hltd : k < bhi.length := by have := lB.out; omega
        obtain ⟨gc, oc, rfl, hgc, cc⟩ := h2.at hltc
        obtain ⟨gd, od, rfl, hgd, cd⟩ := h4.at hltd
        have hi3 : (k : Int) < (ahi.length : Int) := by omega
        have hi4 : (k : Int) < (bhi.length : Int) := by omega
        obtain ⟨x2, hx2⟩ : ∃ x, nth ahi k = x := ⟨_, rfl⟩
        obtain ⟨y2, hy2⟩ : ∃ y, nth bhi k = y := ⟨_, rfl⟩
        have HX2 : Hid (nth (meetHi ahi bhi) k = mnI x2 y2) := by rw [Hid, ← hx2, ← hy2]; exact mix_nth hltc hltd
        rw [hx2] at cc
        rw [hy2] at cd
        clear hx2 hy2
        have q0 := HN.out.c.cell (i := 1) rfl
        have hsz := HN.out.size
        have hKS : Keeps (fun w' => (w.heap.size < w'.heap.size ∧ w'.cell? ⟨w.heap.size, 1, none⟩ = some (.slice (some ⟨gc, oc, none⟩) ahi.length f)) ∧ (w.heap.size + 1 < w'.heap.size ∧ w'.cell? ⟨w.heap.size + 1, 1, none⟩ = some (.slice (some ⟨gd, od, none⟩) bhi.length f')) ∧ (gc < w'.heap.size ∧ w'.cell? ⟨gc, oc + k, none⟩ = some (.int .i64 x2)) ∧ (gd < w'.heap.size ∧ w'.cell? ⟨gd, od + k, none⟩ = some (.int .i64 y2))) := (keeps_cell _ _ _).and ((keeps_cell _ _ _).and ((keeps_cell _ _ _).and (keeps_cell _ _ _)))
        have hSg : ∀ z, Own z w.heap.size 65 [.slice (some ⟨ga, oa, none⟩) alo.length c, .slice (some ⟨gc, oc, none⟩) ahi.length f] → Own z (w.heap.size + 1) 65 [.slice (some ⟨gb, ob, none⟩) blo.length c', .slice (some ⟨gd, od, none⟩) bhi.length f'] → Below w.heap.size w z → (fun w' => (w.heap.size < w'.heap.size ∧ w'.cell? ⟨w.heap.size, 1, none⟩ = some (.slice (some ⟨gc, oc, none⟩) ahi.length f)) ∧ (w.heap.size + 1 < w'.heap.size ∧ w'.cell? ⟨w.heap.size + 1, 1, none⟩ = some (.slice (some ⟨gd, od, none⟩) bhi.length f')) ∧ (gc < w'.heap.size ∧ w'.cell? ⟨gc, oc + k, none⟩ = some (.int .i64 x2)) ∧ (gd < w'.heap.size ∧ w'.cell? ⟨gd, od + k, none⟩ = some (.int .i64 y2))) z := fun z o1 o2 hb => ⟨⟨o1.lt, o1.cell (i := 1) rfl⟩, ⟨o2.lt, o2.cell (i := 1) rfl⟩, ⟨Nat.lt_of_lt_of_le hgc hb.size, (hb.cell (p := ⟨gc, oc + k, none⟩) hgc).trans cc⟩, ⟨Nat.lt_of_lt_of_le hgd hb.size, (hb.cell (p := ⟨gd, od + k, none⟩) hgd).trans cd⟩⟩
        have hS := hSg _ HN.out.a HN.out.b HN.out.below
        have qa : ∀ m, (wz.alloc (.cells #[m] 3)).cell? ⟨w.heap.size + 1 + 1 + 1, 1, none⟩ = some v2 := fun m => ((below_alloc wz _).cell (p := ⟨w.heap.size + 3, 1, none⟩) (by show w.heap.size + 3 < _; omega)).trans q0
        have hlH : k < (meetHi ahi bhi).length := by rw [L2.out]; exact hltc
        have hne3 : w.heap.size + 3 ≠ wz.heap.size := by omega
        go_upto_region 8 with fail
        refine wp_region_noPanic ?_
        refine wp_region_held_drew (S := (fun w' => (w.heap.size < w'.heap.size ∧ w'.cell? ⟨w.heap.size, 1, none⟩ = some (.slice (some ⟨gc, oc, none⟩) ahi.length f)) ∧ (w.heap.size + 1 < w'.heap.size ∧ w'.cell? ⟨w.heap.size + 1, 1, none⟩ = some (.slice (some ⟨gd, od, none⟩) bhi.length f')) ∧ (gc < w'.heap.size ∧ w'.cell? ⟨gc, oc + k, none⟩ = some (.int .i64 x2)) ∧ (gd < w'.heap.size ∧ w'.cell? ⟨gd, od + k, none⟩ = some (.int .i64 y2)))) (by kernel_rfl) ?_ (fun hHeld => ?_)
        · (try dsimp only); first | exact hS6 | exact hS5 | exact hKS _ _ (by first | exact hHeld | exact hS) (by first | assumption | (go_grown; done) | (refine from_drew ?_; go_grown; done))
        refine takeH 0 (some 39) (v := ?_) rfl rfl (by kernel_rfl) (by kernel_rfl) (by kernel_rfl) (by rfl) ?_ (by exact hHeld) ?_
        rotate_left
        · intro w hSw; (try dsimp only at hSw); go_simp; try (with_reducible rfl)
        try simp only [Act.put, List.setIfInBounds_toArray, List.set_cons_zero, List.set_cons_succ]
        refine takeH 2 (some 41) (v := ?_) rfl rfl (by kernel_rfl) (by kernel_rfl) (by kernel_rfl) (by rfl) ?_ (by exact hHeld) ?_
        rotate_left
        · intro w hSw; (try dsimp only at hSw); go_simp; try (with_reducible rfl)
        try simp only [Act.put, List.setIfInBounds_toArray, List.set_cons_zero, List.set_cons_succ]
        refine takeH 3 (some 42) (v := ?_) rfl rfl (by kernel_rfl) (by kernel_rfl) (by kernel_rfl) (by rfl) ?_ (by exact hHeld) ?_
        rotate_left
        · intro w hSw; (try dsimp only at hSw); go_simp; try (with_reducible rfl)
        try simp only [Act.put, List.setIfInBounds_toArray, List.set_cons_zero, List.set_cons_succ]
        refine takeH 4 (some 43) (v := ?_) rfl rfl (by kernel_rfl) (by kernel_rfl) (by kernel_rfl) (by rfl) ?_ (by exact hHeld) ?_
        rotate_left
        · intro w hSw; (try dsimp only at hSw); go_simp; try (with_reducible rfl)
        try simp only [Act.put, List.setIfInBounds_toArray, List.set_cons_zero, List.set_cons_succ]
        refine takeH 5 (some 44) (v := ?_) rfl rfl (by kernel_rfl) (by kernel_rfl) (by kernel_rfl) (by rfl) ?_ (by exact hHeld) ?_
        rotate_left
        · intro w hSw; (try dsimp only at hSw); go_simp; try (with_reducible rfl)
        try simp only [Act.put, List.setIfInBounds_toArray, List.set_cons_zero, List.set_cons_succ]
        refine takeH 6 (some 45) (v := ?_) rfl rfl (by kernel_rfl) (by kernel_rfl) (by kernel_rfl) (by rfl) ?_ (by exact hHeld) ?_
        rotate_left
        · intro w hSw; (try dsimp only at hSw); go_simp; try (with_reducible rfl)
        try simp only [Act.put, List.setIfInBounds_toArray, List.set_cons_zero, List.set_cons_succ]
        refine takeH 7 (some 46) (v := ?_) rfl rfl (by kernel_rfl) (by kernel_rfl) (by kernel_rfl) (by rfl) ?_ (by exact hHeld) ?_
        rotate_left
        · intro w hSw; (try dsimp only at hSw); go_simp; try (with_reducible rfl)
        try simp only [Act.put, List.setIfInBounds_toArray, List.set_cons_zero, List.set_cons_succ]
        refine takeH 8 (some 47) (v := ?_) rfl rfl (by kernel_rfl) (by kernel_rfl) (by kernel_rfl) (by rfl) ?_ (by exact hHeld) ?_
        rotate_left
        · intro w hSw; (try dsimp only at hSw); go_simp; try (with_reducible rfl)
        try simp only [Act.put, List.setIfInBounds_toArray, List.set_cons_zero, List.set_cons_succ]
        refine takeH 9 (some 48) (v := ?_) rfl rfl (by kernel_rfl) (by kernel_rfl) (by kernel_rfl) (by rfl) ?_ (by exact hHeld) ?_
        rotate_left
        · intro w hSw; (try dsimp only at hSw); go_simp; try (with_reducible rfl)
        try simp only [Act.put, List.setIfInBounds_toArray, List.set_cons_zero, List.set_cons_succ]
        refine takeH 10 (some 49) (v := ?_) rfl rfl (by kernel_rfl) (by kernel_rfl) (by kernel_rfl) (by rfl) ?_ (by exact hHeld) ?_
        rotate_left
        · intro w hSw; (try dsimp only at hSw); go_simp; try (with_reducible rfl)
        try simp only [Act.put, List.setIfInBounds_toArray, List.set_cons_zero, List.set_cons_succ]
        refine takeH 11 (some 50) (v := ?_) rfl rfl (by kernel_rfl) (by kernel_rfl) (by kernel_rfl) (by rfl) ?_ (by exact hHeld) ?_
        rotate_left
        · intro w hSw; (try dsimp only at hSw); go_simp; try (with_reducible rfl)
        try simp only [Act.put, List.setIfInBounds_toArray, List.set_cons_zero, List.set_cons_succ]
        refine wpAnyH_ready (rs := [1, 12]) (by kernel_rfl) (by simp) ?_
        refine stepH 1 rfl (by rfl) (fun K hK => ?_) ?_
        · go_simp
          refine hK.out _ _ ?_ (fun hNew => ?_)
          · (try dsimp only); first | exact hS6 | exact hS5 | exact hKS _ _ (by first | exact hHeld | exact hS) (by first | assumption | (go_grown; done) | (refine from_drew ?_; go_grown; done))
          clear hK K hHeld
          have hHeld := hNew
          clear hNew
          try dsimp only at hHeld
          try simp only [Act.put, List.setIfInBounds_toArray, List.set_cons_zero, List.set_cons_succ]
          refine wpAnyH_ready (rs := [12]) (by kernel_rfl) (by simp) ?_
          refine stepH 12 rfl (by rfl) (fun K hK => ?_) ?_
          · go_simp
            refine hK.out _ _ ?_ (fun hNew => ?_)
            · (try dsimp only); first | exact hS6 | exact hS5 | exact hKS _ _ (by first | exact hHeld | exact hS) (by first | assumption | (go_grown; done) | (refine from_drew ?_; go_grown; done))
            clear hK K hHeld
            have hHeld := hNew
            clear hNew
            try dsimp only at hHeld
            try simp only [Act.put, List.setIfInBounds_toArray, List.set_cons_zero, List.set_cons_succ]
            refine wpAnyH_ready (rs := [13]) (by kernel_rfl) (by simp) ?_
            refine stepH 13 rfl (by rfl) (fun K hK => ?_) ?_
            · go_simp
              refine hK.out _ _ ?_ (fun hNew => ?_)
              · (try dsimp only); first | exact hS6 | exact hS5 | exact hKS _ _ (by first | exact hHeld | exact hS) (by first | assumption | (go_grown; done) | (refine from_drew ?_; go_grown; done))
              clear hK K hHeld
              have hHeld := hNew
              clear hNew
              try dsimp only at hHeld
              try simp only [Act.put, List.setIfInBounds_toArray, List.set_cons_zero, List.set_cons_succ]
              refine wpAnyH_ready (rs := [14]) (by kernel_rfl) (by simp) ?_
              refine stepH 14 rfl (by rfl) (fun K hK => ?_) ?_
              · (refine wp_append_lone _ _ rfl (w.heap.size + 4) v2 k _ rfl (HN.out.two.r2.alloc _) wz.heap.size (mnI x2 y2) rfl (heap_alloc_new _ _) (by omega) (by simp; omega) ?_); intro g5 cap5 w5 hown5 hgrow5 hat5; have M7 := Lib.hid ((HN.out.drew _).next2 hlH HX2.out hgrow5 hown5 hat5); obtain ⟨m1, m2, m3, m4⟩ := (HN.out.drew _).mid hgrow5 (.inr rfl); have hS5 := hSg _ m1 m2 m4; have hS6 := hSg _ M7.out.a M7.out.b M7.out.below; have c50 := m3.cell (i := 1) rfl; have f50 := m3.frozen 1; clear m1 m2 m3 m4 hgrow5 hown5 hat5
                refine hK.out _ _ ?_ (fun hNew => ?_)
                · (try dsimp only); first | exact hS6 | exact hS5 | exact hKS _ _ (by first | exact hHeld | exact hS) (by first | assumption | (go_grown; done) | (refine from_drew ?_; go_grown; done))
                clear hK K hHeld
                have hHeld := hNew
                clear hNew
                try dsimp only at hHeld
                try simp only [Act.put, List.setIfInBounds_toArray, List.set_cons_zero, List.set_cons_succ]
                refine takeH 15 (some 54) (v := ?_) rfl rfl (by kernel_rfl) (by kernel_rfl) (by kernel_rfl) (by rfl) ?_ (by exact hHeld) ?_
                rotate_left
                · intro w hSw; (try dsimp only at hSw); go_simp; try (with_reducible rfl)
                try simp only [Act.put, List.setIfInBounds_toArray, List.set_cons_zero, List.set_cons_succ]
                refine wpAnyH_ready (rs := [16]) (by kernel_rfl) (by simp) ?_
                refine stepH 16 rfl (by rfl) (fun K hK => ?_) ?_
                · go_simp
                  refine hK.out _ _ ?_ (fun hNew => ?_)
                  · (try dsimp only); first | exact hS6 | exact hS5 | exact hKS _ _ (by first | exact hHeld | exact hS) (by first | assumption | (go_grown; done) | (refine from_drew ?_; go_grown; done))
                  clear hK K hHeld
                  have hHeld := hNew
                  clear hNew
                  try dsimp only at hHeld
                  try simp only [Act.put, List.setIfInBounds_toArray, List.set_cons_zero, List.set_cons_succ]
                  refine wpAnyH_done (by kernel_rfl) ?_ _
                  refine NoPanic.normal ?_
                  go_wp2_with fail
                  all_goals (go_roundw; (case rel => exact ⟨k + 1, _, _, by omega, by go_num, M7⟩); (case measure => simp [intOf]; omega))
                exact AllReadyH.nil
              exact AllReadyH.nil
            exact AllReadyH.nil
          exact AllReadyH.nil
        refine stepH 12 rfl (by rfl) (fun K hK => ?_) ?_
        · go_simp
          refine hK.out _ _ ?_ (fun hNew => ?_)
          · (try dsimp only); first | exact hS6 | exact hS5 | exact hKS _ _ (by first | exact hHeld | exact hS) (by first | assumption | (go_grown; done) | (refine from_drew ?_; go_grown; done))
          clear hK K hHeld
          have hHeld := hNew
          clear hNew
          try dsimp only at hHeld
          try simp only [Act.put, List.setIfInBounds_toArray, List.set_cons_zero, List.set_cons_succ]
          refine wpAnyH_ready (rs := [1, 13]) (by kernel_rfl) (by simp) ?_
          refine stepH 1 rfl (by rfl) (fun K hK => ?_) ?_
          · go_simp
            refine hK.out _ _ ?_ (fun hNew => ?_)
            · (try dsimp only); first | exact hS6 | exact hS5 | exact hKS _ _ (by first | exact hHeld | exact hS) (by first | assumption | (go_grown; done) | (refine from_drew ?_; go_grown; done))
            clear hK K hHeld
            have hHeld := hNew
            clear hNew
            try dsimp only at hHeld
            try simp only [Act.put, List.setIfInBounds_toArray, List.set_cons_zero, List.set_cons_succ]
            refine wpAnyH_ready (rs := [13]) (by kernel_rfl) (by simp) ?_
            refine stepH 13 rfl (by rfl) (fun K hK => ?_) ?_
            · go_simp
              refine hK.out _ _ ?_ (fun hNew => ?_)
              · (try dsimp only); first | exact hS6 | exact hS5 | exact hKS _ _ (by first | exact hHeld | exact hS) (by first | assumption | (go_grown; done) | (refine from_drew ?_; go_grown; done))
              clear hK K hHeld
              have hHeld := hNew
              clear hNew
              try dsimp only at hHeld
              try simp only [Act.put, List.setIfInBounds_toArray, List.set_cons_zero, List.set_cons_succ]
              refine wpAnyH_ready (rs := [14]) (by kernel_rfl) (by simp) ?_
              refine stepH 14 rfl (by rfl) (fun K hK => ?_) ?_
              · (refine wp_append_lone _ _ rfl (w.heap.size + 4) v2 k _ rfl (HN.out.two.r2.alloc _) wz.heap.size (mnI x2 y2) rfl (heap_alloc_new _ _) (by omega) (by simp; omega) ?_); intro g5 cap5 w5 hown5 hgrow5 hat5; have M7 := Lib.hid ((HN.out.drew _).next2 hlH HX2.out hgrow5 hown5 hat5); obtain ⟨m1, m2, m3, m4⟩ := (HN.out.drew _).mid hgrow5 (.inr rfl); have hS5 := hSg _ m1 m2 m4; have hS6 := hSg _ M7.out.a M7.out.b M7.out.below; have c50 := m3.cell (i := 1) rfl; have f50 := m3.frozen 1; clear m1 m2 m3 m4 hgrow5 hown5 hat5
                refine hK.out _ _ ?_ (fun hNew => ?_)
                · (try dsimp only); first | exact hS6 | exact hS5 | exact hKS _ _ (by first | exact hHeld | exact hS) (by first | assumption | (go_grown; done) | (refine from_drew ?_; go_grown; done))
                clear hK K hHeld
                have hHeld := hNew
                clear hNew
                try dsimp only at hHeld
                try simp only [Act.put, List.setIfInBounds_toArray, List.set_cons_zero, List.set_cons_succ]
                refine takeH 15 (some 54) (v := ?_) rfl rfl (by kernel_rfl) (by kernel_rfl) (by kernel_rfl) (by rfl) ?_ (by exact hHeld) ?_
                rotate_left
                · intro w hSw; (try dsimp only at hSw); go_simp; try (with_reducible rfl)
                try simp only [Act.put, List.setIfInBounds_toArray, List.set_cons_zero, List.set_cons_succ]
                refine wpAnyH_ready (rs := [16]) (by kernel_rfl) (by simp) ?_
                refine stepH 16 rfl (by rfl) (fun K hK => ?_) ?_
                · go_simp
                  refine hK.out _ _ ?_ (fun hNew => ?_)
                  · (try dsimp only); first | exact hS6 | exact hS5 | exact hKS _ _ (by first | exact hHeld | exact hS) (by first | assumption | (go_grown; done) | (refine from_drew ?_; go_grown; done))
                  clear hK K hHeld
                  have hHeld := hNew
                  clear hNew
                  try dsimp only at hHeld
                  try simp only [Act.put, List.setIfInBounds_toArray, List.set_cons_zero, List.set_cons_succ]
                  refine wpAnyH_done (by kernel_rfl) ?_ _
                  refine NoPanic.normal ?_
                  go_wp2_with fail
                  all_goals (go_roundw; (case rel => exact ⟨k + 1, _, _, by omega, by go_num, M7⟩); (case measure => simp [intOf]; omega))
                exact AllReadyH.nil
              exact AllReadyH.nil
            exact AllReadyH.nil
          refine stepH 13 rfl (by rfl) (fun K hK => ?_) ?_
          · go_simp
            refine hK.out _ _ ?_ (fun hNew => ?_)
            · (try dsimp only); first | exact hS6 | exact hS5 | exact hKS _ _ (by first | exact hHeld | exact hS) (by first | assumption | (go_grown; done) | (refine from_drew ?_; go_grown; done))
            clear hK K hHeld
            have hHeld := hNew
            clear hNew
            try dsimp only at hHeld
            try simp only [Act.put, List.setIfInBounds_toArray, List.set_cons_zero, List.set_cons_succ]
            refine wpAnyH_ready (rs := [1]) (by kernel_rfl) (by simp) ?_
            refine stepH 1 rfl (by rfl) (fun K hK => ?_) ?_
            · go_simp
              refine hK.out _ _ ?_ (fun hNew => ?_)
              · (try dsimp only); first | exact hS6 | exact hS5 | exact hKS _ _ (by first | exact hHeld | exact hS) (by first | assumption | (go_grown; done) | (refine from_drew ?_; go_grown; done))
              clear hK K hHeld
              have hHeld := hNew
              clear hNew
              try dsimp only at hHeld
              try simp only [Act.put, List.setIfInBounds_toArray, List.set_cons_zero, List.set_cons_succ]
              refine wpAnyH_ready (rs := [14]) (by kernel_rfl) (by simp) ?_
              refine stepH 14 rfl (by rfl) (fun K hK => ?_) ?_
              · (refine wp_append_lone _ _ rfl (w.heap.size + 4) v2 k _ rfl (HN.out.two.r2.alloc _) wz.heap.size (mnI x2 y2) rfl (heap_alloc_new _ _) (by omega) (by simp; omega) ?_); intro g5 cap5 w5 hown5 hgrow5 hat5; have M7 := Lib.hid ((HN.out.drew _).next2 hlH HX2.out hgrow5 hown5 hat5); obtain ⟨m1, m2, m3, m4⟩ := (HN.out.drew _).mid hgrow5 (.inr rfl); have hS5 := hSg _ m1 m2 m4; have hS6 := hSg _ M7.out.a M7.out.b M7.out.below; have c50 := m3.cell (i := 1) rfl; have f50 := m3.frozen 1; clear m1 m2 m3 m4 hgrow5 hown5 hat5
                refine hK.out _ _ ?_ (fun hNew => ?_)
                · (try dsimp only); first | exact hS6 | exact hS5 | exact hKS _ _ (by first | exact hHeld | exact hS) (by first | assumption | (go_grown; done) | (refine from_drew ?_; go_grown; done))
                clear hK K hHeld
                have hHeld := hNew
                clear hNew
                try dsimp only at hHeld
                try simp only [Act.put, List.setIfInBounds_toArray, List.set_cons_zero, List.set_cons_succ]
                refine takeH 15 (some 54) (v := ?_) rfl rfl (by kernel_rfl) (by kernel_rfl) (by kernel_rfl) (by rfl) ?_ (by exact hHeld) ?_
                rotate_left
                · intro w hSw; (try dsimp only at hSw); go_simp; try (with_reducible rfl)
                try simp only [Act.put, List.setIfInBounds_toArray, List.set_cons_zero, List.set_cons_succ]
                refine wpAnyH_ready (rs := [16]) (by kernel_rfl) (by simp) ?_
                refine stepH 16 rfl (by rfl) (fun K hK => ?_) ?_
                · go_simp
                  refine hK.out _ _ ?_ (fun hNew => ?_)
                  · (try dsimp only); first | exact hS6 | exact hS5 | exact hKS _ _ (by first | exact hHeld | exact hS) (by first | assumption | (go_grown; done) | (refine from_drew ?_; go_grown; done))
                  clear hK K hHeld
                  have hHeld := hNew
                  clear hNew
                  try dsimp only at hHeld
                  try simp only [Act.put, List.setIfInBounds_toArray, List.set_cons_zero, List.set_cons_succ]
                  refine wpAnyH_done (by kernel_rfl) ?_ _
                  refine NoPanic.normal ?_
                  go_wp2_with fail
                  all_goals (go_roundw; (case rel => exact ⟨k + 1, _, _, by omega, by go_num, M7⟩); (case measure => simp [intOf]; omega))
                exact AllReadyH.nil
              exact AllReadyH.nil
            exact AllReadyH.nil
          exact AllReadyH.nil
        exact AllReadyH.nil
    · have hi1 : ¬ (k : Int) < (alo.length : Int) := by omega
      have t1 : (meetLo alo blo).take k = meetLo alo blo := List.take_of_length_le (by rw [L1.out]; omega)
      have t2 : (meetHi ahi bhi).take k = meetHi ahi bhi := List.take_of_length_le (by rw [L2.out]; have := lA.out; omega)
      have hr1 := HM.out.two.r1
      have hr2 := HM.out.two.r2
      rw [t1] at hr1
      rw [t2] at hr2
      obtain ⟨r4, c4, hv1, n4⟩ := row_new hr1
      obtain ⟨r5, c5, hv2, n5⟩ := row_new hr2
      rw [List.length_map] at hv1 hv2
      subst hv1 hv2
      have i4 := Lib.hid (mix_i64 (op := mxI) mxI_or h1.i64 h3.i64)
      have i5 := Lib.hid (mix_i64 (op := mnI) mnI_or h2.i64 h4.i64)
      have hle : (meetLo alo blo).length ≤ (meetHi ahi bhi).length := by have := L1.out; have := L2.out; have := lA.out; omega
      have hl6 : (meetLo alo blo).length ≤ 1000000 := by have := L1.out; omega
      have hl7 : (meetHi ahi bhi).length ≤ 1000000 := by have := L2.out; have := lA.out; omega
      have q0 := HM.out.c.cell (i := 0) rfl
      have q1 := HM.out.c.cell (i := 1) rfl
      clear t1 t2 hr1 hr2
      go_wp2_with fail
      clear a0 q0 q1
      obtain ⟨b, hbv⟩ : ∃ b, decide (¬ FullX (meetLo alo blo) (meetHi ahi bhi)) = b := ⟨_, rfl⟩
      have HB := Lib.hid hbv
      clear hbv
      refine (RefEmpty_any r4 r5 c4 c5 (meetLo alo blo) (meetHi ahi bhi) b HB.out hle wr (n4.ints i4.out (by show (meetLo alo blo).length ≤ _; omega)) (n5.ints i5.out (by show (meetHi ahi bhi).length ≤ _; omega))).mono ?_
      rintro e5 w5 ⟨rfl, hb5⟩
      have HM5 := HM.out.keep hb5
      have c0 := HM5.c.cell (i := 0) rfl
      have c1 := HM5.c.cell (i := 1) rfl
      have x0 := HM5.r.cell (i := 0) rfl
      have x1 := HM5.r.cell (i := 1) rfl
      have f0 := HM5.r.frozen 0
      have f1 := HM5.r.frozen 1
      have hb := HM5.below
      cases b with
      | false =>
        have HF : Hid (Meets alo ahi blo bhi) := ⟨lN.out, by have := HB.out; rw [decide_eq_false_iff_not, Decidable.not_not] at this; exact this⟩
        have K4 := Lib.hid ((((n4.keep' hb5).other (a := ⟨w.heap.size + 2, 0, none⟩) (by simp) (.slice r4 (meetLo alo blo).length c4)).other (a := ⟨w.heap.size + 2, 1, none⟩) (by simp) (.slice r5 (meetHi ahi bhi).length c5)).mono (B' := w.heap.size) (by omega))
        have K5 := Lib.hid ((((n5.keep' hb5).other (a := ⟨w.heap.size + 2, 0, none⟩) (by simp) (.slice r4 (meetLo alo blo).length c4)).other (a := ⟨w.heap.size + 2, 1, none⟩) (by simp) (.slice r5 (meetHi ahi bhi).length c5)).mono (B' := w.heap.size) (by omega))
        have hbz := Lib.hid (below_set (below_set hb (Nat.le_add_right w.heap.size 2) 0 (.slice r4 (meetLo alo blo).length c4)) (Nat.le_add_right w.heap.size 2) 1 (.slice r5 (meetHi ahi bhi).length c5))
        clear n4 n5 hb HM hb5 HM5
        go_wp2_with fail
        exact bodyPost_ret (v := .tuple #[.agg #[.slice r4 (meetLo alo blo).length c4, .slice r5 (meetHi ahi bhi).length c5], .bool true]) (by simp [results, Try.results55, go_sem, x0, x1, f0, f1]) rfl (meetRet_yes HF.out r4 r5 c4 c5 _ _ rfl rfl K4.out K5.out hbz.out)
      | true =>
        have HF : Hid (¬ Meets alo ahi blo bhi) := fun h => by have := HB.out; rw [decide_eq_true_iff] at this; exact this h.2
        have hbz := Lib.hid (below_set (below_set hb (Nat.le_add_right w.heap.size 2) 0 (.slice none 0 0)) (Nat.le_add_right w.heap.size 2) 1 (.slice none 0 0))
        clear n4 n5 hb HM hb5 HM5
        go_wp2_with fail
        exact bodyPost_ret (v := .tuple #[.agg #[.slice none 0 0, .slice none 0 0], .bool false]) (by simp [results, Try.results55, go_sem, x0, x1, f0, f1]) rfl (meetRet_no HF.out hbz.out)
end Go.Proofs.Ythkfjdhakbjllaa
