/- tree.Copy. No condition beyond what each says. -/
import Derived.Test.YtjehgcmcphgofaaTr27
namespace Go.Proofs.Ytjehgcmcphgofaa
open Go.RowKit Go.Shelf
set_option linter.unusedVariables false
set_option linter.unusedSimpArgs false

theorem copy_boxes (w : World) (d : TD) : ∃ W X, X = w.heap.size + 1 ∧ (w.alloc (.cells #[.int .i64 d.kind, .int .i64 d.fn, .int .i64 d.axis, .string d.name, .slice d.np d.nums.length d.nc, .slice d.kp d.n d.kc] 25)).alloc (.cells #[.int .i64 0, .int .i64 0, .int .i64 0, .string ⟨#[]⟩, .slice none 0 0, .slice none 0 0] 25) = W ∧
    Own W w.heap.size 25 [.int .i64 d.kind, .int .i64 d.fn, .int .i64 d.axis, .string d.name, .slice d.np d.nums.length d.nc, .slice d.kp d.n d.kc] ∧ Own W X 25 [.int .i64 0, .int .i64 0, .int .i64 0, .string ⟨#[]⟩, .slice none 0 0, .slice none 0 0] ∧ Below w.heap.size w W ∧ W.heap.size = w.heap.size + 2 := by
  refine ⟨_, _, rfl, rfl, ?_, ?_, below_t (below_alloc _ _) (below_alloc _ _), by simp⟩
  · exact (Own.made w _ [.int .i64 d.kind, .int .i64 d.fn, .int .i64 d.axis, .string d.name, .slice d.np d.nums.length d.nc, .slice d.kp d.n d.kc] _ rfl).keep (below_alloc _ _) (by simp)
  · exact Own.made _ _ [.int .i64 0, .int .i64 0, .int .i64 0, .string ⟨#[]⟩, .slice none 0 0, .slice none 0 0] _ (by simp)

/-- a node is stored into a box, behind a store of one cell elsewhere -/
theorem six_set (y : World) (X : Nat) (a b c d e f : Value) : ∃ z, (((((y.setCell ⟨X, 0, none⟩ a).setCell ⟨X, 1, none⟩ b).setCell ⟨X, 2, none⟩ c).setCell ⟨X, 3, none⟩ d).setCell ⟨X, 4, none⟩ e).setCell ⟨X, 5, none⟩ f = z ∧
    (∀ j, j ≠ X → z.heap[j]? = y.heap[j]?) ∧ (∀ B w, Below B w y → B ≤ X → Below B w z) ∧ ∀ T a' b' c' d' e' f', Own y X T [a', b', c', d', e', f'] → Own z X T [a, b, c, d, e, f] := by
  refine ⟨_, rfl, fun j hj => ?_, fun B w h hB => ?_, fun T a' b' c' d' e' f' h => ?_⟩
  · iterate 6 rw [Below.heap_setCell _ _ _ _ (by exact hj)]
  · exact (((((h.setCell (p := ⟨X, 0, none⟩) hB _).setCell (p := ⟨X, 1, none⟩) hB _).setCell (p := ⟨X, 2, none⟩) hB _).setCell (p := ⟨X, 3, none⟩) hB _).setCell (p := ⟨X, 4, none⟩) hB _).setCell (p := ⟨X, 5, none⟩) hB _
  · exact (((((h.set (i := 0) (by simp) _).set (i := 1) (by simp) _).set (i := 2) (by simp) _).set (i := 3) (by simp) _).set (i := 4) (by simp) _).set (i := 5) (by simp) _

set_option maxHeartbeats 4000000 in
theorem Copy_step (d : TD) (kids : Nat → TV) (ih : ∀ i w, sizeT (kids i) ≤ 1000000 → numsT (kids i) ≤ 1000000 → TreeIn w (kids i) → Calls Try.prog 24 #[.agg #[.int .i64 (kids i).d.kind, .int .i64 (kids i).d.fn, .int .i64 (kids i).d.axis, .string (kids i).d.name, .slice (kids i).d.np (kids i).d.nums.length (kids i).d.nc, .slice (kids i).d.kp (kids i).d.n (kids i).d.kc]] w (CopyRet w (kids i)))
    (w : World) (hs : sizeT (.mk d kids) ≤ 1000000) (hm : numsT (.mk d kids) ≤ 1000000) (h : TreeIn w (.mk d kids)) : Calls Try.prog 24 #[.agg #[.int .i64 d.kind, .int .i64 d.fn, .int .i64 d.axis, .string d.name, .slice d.np d.nums.length d.nc, .slice d.kp d.n d.kc]] w (CopyRet w (.mk d kids)) := by
  obtain ⟨W, X, hX, hW, oA, oX, hb, hsz⟩ := copy_boxes w d
  have hlen : d.nums.length ≤ 1000000 := by simp only [numsT] at hm; omega
  have hn : d.n ≤ 1000000 := Nat.le_trans (kids_le d kids) hs
  have HC := Lib.hid (Clone64_any d.np d.nc d.nums W (h.keep hb).nums hlen)
  have HT := Lib.hid h
  have H64 := Lib.hid h.nums.i64
  have IH := Lib.hid ih
  have HS : Hid (sizeT (.mk d kids) ≤ 1000000 ∧ numsT (.mk d kids) ≤ 1000000 ∧ d.nums.length ≤ 1000000 ∧ d.n ≤ 1000000) := ⟨hs, hm, hlen, hn⟩
  have HW := Lib.hid hW
  have HX : Hid (X = w.heap.size + 1 ∧ W.heap.size = w.heap.size + 2) := ⟨hX, hsz⟩
  have HB := Lib.hid hb
  have HA := Lib.hid oA
  have HO := Lib.hid oX
  have hA4 := oA.cell (i := 4) rfl
  have HX' := Lib.hid hX
  clear hW hX oA oX hb hsz hs hm hlen hn h ih
  go_enter Try.func24, Try.ntmps24
  go_wp2_with fail
  rw [HW.out, ← HX'.out]
  clear HW HX'
  go_wp2_with fail
  refine HC.out.mono ?_
  rintro e1 w1 ⟨⟨p1, c1, rfl, hnew⟩, hb1⟩
  have oA1 := HA.out.keep hb1 HA.out.lt
  have hA4 := oA1.cell (i := 4) rfl
  have hf4 := oA1.frozen 4
  have oA2 := oA1.set (i := 4) (by simp) (.slice p1 d.nums.length c1)
  have hA5 := oA2.cell (i := 5) rfl
  have hB1 := HB.out.trans (hb1.mono HB.out.size)
  obtain ⟨W1, hW1⟩ : ∃ W1, w1.setCell ⟨w.heap.size, 4, none⟩ (.slice p1 d.nums.length c1) = W1 := ⟨_, rfl⟩
  have hz1 : W1.heap.size = w1.heap.size := by rw [← hW1]; simp [World.setCell]
  have HF : Hid (Own W1 w.heap.size 25 [.int .i64 d.kind, .int .i64 d.fn, .int .i64 d.axis, .string d.name, .slice p1 d.nums.length c1, .slice d.kp d.n d.kc] ∧
      Own W1 X 25 [.int .i64 0, .int .i64 0, .int .i64 0, .string ⟨#[]⟩, .slice none 0 0, .slice none 0 0] ∧ New W.heap.size W1 p1 2 (d.nums.map (.int .i64)) ∧ Below w.heap.size w W1 ∧ TreeIn W1 (.mk d kids) ∧ W.heap.size ≤ W1.heap.size) := by
    have hx := HX.out
    rw [← hW1]
    refine ⟨oA2, (HO.out.keep hb1 HO.out.lt).other (by show w.heap.size ≠ X; omega) _, hnew.other (by show w.heap.size < W.heap.size; omega) _, hB1.setCell (Nat.le_refl _) _, ?_, ?_⟩
    · exact HT.out.keep (hB1.setCell (Nat.le_refl _) _)
    · have := hb1.size; simpa [World.setCell] using this
  have HW1 := Lib.hid hW1
  clear oA1 oA2 hnew hb1 hB1 hW1 hz1
  go_wp2_with fail
  rw [HW1.out]
  clear hA4 hf4 hA5
  go_loopw [3, 13] (fun x i wr => ∃ (k : Nat) (ks : List TV) (wz : World), wz = wr ∧ k ≤ d.n ∧ i = .int .i64 k ∧ Hid (CopI W1.heap.size W1.heap.size kids k W1 wz x ks)) (fun _ i _ => d.n - (intOf i).toNat)
  case atStart => exact ⟨0, [], W1, rfl, Nat.zero_le _, rfl, CopI.start _ _ _ _ _ (Below.refl _ _) (Nat.le_refl _) (Nat.le_refl _)⟩
  case round =>
    obtain ⟨k, ks, wz, rfl, hk, rfl, HI⟩ := hrel
    have hn := HS.out.2.2.2
    by_cases hlt : k < d.n
    · have hi1 : (k : Int) < (d.n : Int) := by omega
      obtain ⟨⟨g, o, e1, hg, N⟩, hTk⟩ := (HF.out.2.2.2.2.1.keep HI.out.below).kid hlt
      have c0 := N.c0
      have c1 := N.c1
      have c2 := N.c2
      have c3 := N.c3
      have c4 := N.c4
      have c5 := N.c5
      rw [e1]
      have HCk := Lib.hid (IH.out k _ (by have := sizeT_kid (kids := kids) hlt; have := HS.out.1; omega) (by have := numsT_kid (kids := kids) hlt; have := HS.out.2.1; omega) (hTk.keep (below_alloc wz (.cells #[.int .i64 (kids k).d.kind, .int .i64 (kids k).d.fn, .int .i64 (kids k).d.axis, .string (kids k).d.name, .slice (kids k).d.np (kids k).d.nums.length (kids k).d.nc, .slice (kids k).d.kp (kids k).d.n (kids k).d.kc] 25))))
      clear N hTk e1
      go_wp2_with fail
      refine HCk.out.mono ?_
      rintro e2 w2 ⟨t', rfl, hTS, hsame, hb2⟩
      have hb3 := below_1 hb2
      have hrow := (row_block' HI.out.row fun j hj => hb3.block j (row_lt HI.out.row hj).2).alloc (.cells #[.int .i64 t'.d.kind, .int .i64 t'.d.fn, .int .i64 t'.d.axis, .string t'.d.name, .slice t'.d.np t'.d.nums.length t'.d.nc, .slice t'.d.kp t'.d.n t'.d.kc] 25)
      have hbase := Nat.le_trans HI.out.base hb3.size
      have HN := Lib.hid (fun z2 g cap => HI.out.next (z2 := z2) (g := g) (cap := cap) hb3 (by simp) hTS hsame (o := .cells #[.int .i64 t'.d.kind, .int .i64 t'.d.fn, .int .i64 t'.d.axis, .string t'.d.name, .slice t'.d.np t'.d.nums.length t'.d.nc, .slice t'.d.kp t'.d.n t'.d.kc] 25))
      have hkl := HI.out.len
      have HROW := Lib.hid hrow
      clear hTS hsame hb2 hb3 c0 c1 c2 c3 c4 c5 hrow
      go_wp2_with (at_builtin; refine wpList_append_node rfl (.tmp 17) (.tmp 20) rfl W1.heap.size _ ks k hkl rfl HROW.out w2.heap.size t' rfl (World.alloc_heap_new w2 _) (by omega) (by simp; omega) ?_; intro g2 cap2 z2 o2 hg2 hl2; have HI2 := Lib.hid (HN.out z2 g2 cap2 o2 hg2 hl2))
      clear HN HROW HCk hkl hbase o2 hg2 hl2
      go_wp2_with fail
      go_roundw
      case rel => exact ⟨k + 1, _, z2, rfl, by omega, by go_num, HI2⟩
      case measure => simp [intOf]; omega
    · have hkn : k = d.n := by omega
      subst hkn
      obtain ⟨p, c, rfl, hfin⟩ := HI.out.done hn
      have oA := HF.out.1.keep HI.out.below HF.out.1.lt
      have oX := HF.out.2.1.keep HI.out.below HF.out.2.1.lt
      have hA5 := oA.cell (i := 5) rfl
      have hf5 := oA.frozen 5
      have oA2 := oA.set (i := 5) (by simp) (.slice p d.n c)
      have oX2 := oX.other (a := ⟨w.heap.size, 5, none⟩) (by have := HX.out; show w.heap.size ≠ X; omega) (.slice p d.n c)
      have k0 := oA2.cell (i := 0) rfl
      have k1 := oA2.cell (i := 1) rfl
      have k2 := oA2.cell (i := 2) rfl
      have k3 := oA2.cell (i := 3) rfl
      have k4 := oA2.cell (i := 4) rfl
      have k5 := oA2.cell (i := 5) rfl
      have x0 := oX2.cell (i := 0) rfl
      have x1 := oX2.cell (i := 1) rfl
      have x2 := oX2.cell (i := 2) rfl
      have x3 := oX2.cell (i := 3) rfl
      have x4 := oX2.cell (i := 4) rfl
      have x5 := oX2.cell (i := 5) rfl
      have hfX := fun i => oX2.frozen i
      have HFIN := Lib.hid hfin
      have HoX := Lib.hid oX2
      clear oA oX oA2 oX2 hfin
      go_wp2_with fail
      obtain ⟨z, hz, hz1, hz2, hz3⟩ := six_set (wz.setCell ⟨w.heap.size, 5, none⟩ (.slice p d.n c)) X (.int .i64 d.kind) (.int .i64 d.fn) (.int .i64 d.axis) (.string d.name) (.slice p1 d.nums.length c1) (.slice p d.n c)
      rw [hz]
      have oZ := hz3 _ _ _ _ _ _ _ HoX.out
      have y0 := oZ.cell (i := 0) rfl
      have y1 := oZ.cell (i := 1) rfl
      have y2 := oZ.cell (i := 2) rfl
      have y3 := oZ.cell (i := 3) rfl
      have y4 := oZ.cell (i := 4) rfl
      have y5 := oZ.cell (i := 5) rfl
      have hX := HX.out
      have hW1 := HF.out.2.2.2.2.2
      have same : ∀ j, j ≠ w.heap.size → j ≠ X → z.heap[j]? = wz.heap[j]? := fun j h1 h2 => (hz1 j h2).trans (Below.heap_setCell _ ⟨w.heap.size, 5, none⟩ _ j h1)
      have hzb := hz2 w.heap.size w (((HF.out.2.2.2.1).trans (HI.out.below.mono (by omega))).setCell (p := ⟨w.heap.size, 5, none⟩) (Nat.le_refl _) _) (by omega)
      have hnums : d.nums = [] ∨ ∃ g, p1 = some ⟨g, 0, none⟩ ∧ w.heap.size ≤ g ∧ Own z g 2 (d.nums.map (.int .i64)) := by
        rcases HF.out.2.2.1 with h' | ⟨g, hp, hg, ho⟩
        · exact .inl (by simpa using h')
        · exact .inr ⟨g, hp, by omega, (ho.keep HI.out.below ho.lt).block (same g (by omega) (by omega))⟩
      obtain ⟨kids', hk1, hk2⟩ := HFIN.out (fun j => w.heap.size ≤ j) p1 c1 z (fun j hj => by omega) (fun j hj _ => same j (by omega) (by omega)) hnums ⟨H64.out, HS.out.2.2.1⟩
      refine bodyPost_ret (v := .agg #[.int .i64 d.kind, .int .i64 d.fn, .int .i64 d.axis, .string d.name, .slice p1 d.nums.length c1, .slice p d.n c]) ?_ rfl ⟨_, rfl, hk1, hk2, hzb⟩
      clear hk1 hk2 hzb hnums same hz hz1 hz2 hz3 oZ
      simp [results, Try.f24, go_sem, y0, y1, y2, y3, y4, y5]
theorem Copy_any : ∀ (t : TV) (w : World), sizeT t ≤ 1000000 → numsT t ≤ 1000000 → TreeIn w t → Calls Try.prog 24 #[.agg #[.int .i64 t.d.kind, .int .i64 t.d.fn, .int .i64 t.d.axis, .string t.d.name, .slice t.d.np t.d.nums.length t.d.nc, .slice t.d.kp t.d.n t.d.kc]] w (CopyRet w t)
  | .nil, _, _, _, h => h.no
  | .mk d kids, w, hs, hm, h => Copy_step d kids (fun i w hs hm h => Copy_any (kids i) w hs hm h) w hs hm h
end Go.Proofs.Ytjehgcmcphgofaa
